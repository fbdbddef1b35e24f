/- Parts of the proof of CueCopiesMatchSpec, in order. -/
import Derived.Orders
import Derived.Below
import Derived.WalkKit
import Derived.Laws.StructEq
import Derived.Laws.Append
import Derived.Laws.AppendOwn
import Derived.Test.YtphgchakmkankaaGreatRows
import Derived.KernelRfl
import Derived.Lib.Bytealg
import Derived.Sort.Defs
import Derived.Lib.BitFns
import Derived.Test.YtphgchakmkankaaGreatShelf
import Derived.Lib.Overlaps
import Derived.IntWalk
import Derived.Sort.Statements
import Derived.Shelf.SlSortCmp.WholeK
import Derived.Shelf.SlSortCmp.NoneTotal
import Derived.Sort.AssemblyPlain
import Derived.Lib.Strings
import Derived.Test.YtphgchakmkankaaGreatKCueCopiesMatchSpec4
namespace Go.Proofs.YtphgchakmkankaaGreat
set_option linter.unusedSectionVars false
set_option linter.unusedVariables false
set_option linter.unusedSimpArgs false
set_option maxRecDepth 100000
noncomputable def t_cue_place_fn1 (a0 : CueD) (a1 : Int) : Option Int :=
 some (IntKind.i64.wrap (a0.number - a1))
theorem h_cue_place_fn1 {a0 : CueD} { a1 : Int} {σ : Heap} {r : Int} (h : t_cue_place_fn1 a0 a1 = some r) : m_cue_place_fn1 [(AV.agg (cCue a0)), (AV.int .i64 a1)] σ = some ((AV.int .i64 r), σ) := by
 refine rf_wrap2 (f := r_cue_place_fn1) (y0 := (AV.agg (cCue a0))) (y1 := (AV.int .i64 a1)) (enc := fun r : Int => (AV.int .i64 r)) (T := t_cue_place_fn1 a0 a1) (nn_t1 (nn_a rfl) rfl) rfl ?_ r h
 unfold r_cue_place_fn1 t_cue_place_fn1
 refine rf_s (cCue a0) rfl ?_
 refine rf_s (AV.int .i64 a0.number) rfl ?_
 refine rf_s (AV.int .i64 (IntKind.i64.wrap (a0.number - a1))) rfl ?_
 exact rf_fin _ (fin_same _ _) ⟨rfl, rfl⟩

noncomputable def t_cue_wayFault (a0 : Int) : Option Int :=
 some (if ((decide (¬ (a0 = 1))) && (decide (¬ (a0 = 2)))) = true then 4 else 0)
theorem h_cue_wayFault {a0 : Int} {σ : Heap} {r : Int} (h : t_cue_wayFault a0 = some r) : m_cue_wayFault [(AV.int .i64 a0)] σ = some ((AV.int .i64 r), σ) := by
 refine rf_wrap1 (f := r_cue_wayFault) (y0 := (AV.int .i64 a0)) (enc := fun r : Int => (AV.int .i64 r)) (T := t_cue_wayFault a0) rfl rfl ?_ r h
 unfold r_cue_wayFault t_cue_wayFault
 refine rf_s (AV.bool (decide (¬ (a0 = 1)))) (aNe _ _ _) ?_
 refine rf_gt (AV.int .i64 a0) (fun hg => rfl) ?_
 refine rf_gt (AV.bool (decide (¬ (a0 = 2)))) (fun hg => by
   simp only [hg, Bool.true_and, cond_true]; first | done | exact (aNe _ _ _)) ?_
 refine rf_s (AV.bool ((decide (¬ (a0 = 1))) && (decide (¬ (a0 = 2))))) (pk_and _ _) ?_
 refine rf_s ((AV.int .i64 (if ((decide (¬ (a0 = 1))) && (decide (¬ (a0 = 2)))) = true then 4 else 0)), σ) (When_eq ((decide (¬ (a0 = 1))) && (decide (¬ (a0 = 2)))) 4 σ) ?_
 exact rf_fin _ (fin_same _ _) ⟨rfl, rfl⟩

noncomputable def t_cue_numberFault (a0 : Int) : Option Int :=
 some (if (!(withinB a0 1 9999999)) = true then 1 else 0)
theorem h_cue_numberFault {a0 : Int} {σ : Heap} {r : Int} (h : t_cue_numberFault a0 = some r) : m_cue_numberFault [(AV.int .i64 a0)] σ = some ((AV.int .i64 r), σ) := by
 refine rf_wrap1 (f := r_cue_numberFault) (y0 := (AV.int .i64 a0)) (enc := fun r : Int => (AV.int .i64 r)) (T := t_cue_numberFault a0) rfl rfl ?_ r h
 unfold r_cue_numberFault t_cue_numberFault
 refine rf_s ((AV.bool (withinB a0 1 9999999)), σ) (Within_eq a0 1 9999999 σ) ?_
 refine rf_s (AV.bool (!(withinB a0 1 9999999))) rfl ?_
 refine rf_s ((AV.int .i64 (if (!(withinB a0 1 9999999)) = true then 1 else 0)), σ) (When_eq (!(withinB a0 1 9999999)) 1 σ) ?_
 exact rf_fin _ (fin_same _ _) ⟨rfl, rfl⟩

noncomputable def t_cue_blocked (a0 : (List CueD)) (a1 : Int) : Option Int :=
 whE (fun (s1 : Int) => (show Option (Lr Int Unit Int) from
   if s1 < (a0.length : Int) then
    (tIx a0 s1).bind fun x7 =>
    if x7.block = true then
     some (.ret s1)
    else
    some (.go (IntKind.i64.wrap (s1 + 1)))
   else
   some (.brk ()))) a1 (fun b2 =>
  some (-1)) (fun b2 =>
  some b2)
theorem h_cue_blocked {a0 : (List CueD)} { a1 : Int} {σ : Heap} {r : Int} (h : t_cue_blocked a0 a1 = some r) : m_cue_blocked [(sl 11 cCue a0), (AV.int .i64 a1)] σ = some ((AV.int .i64 r), σ) := by
 refine rf_wrap2 (f := r_cue_blocked) (y0 := (sl 11 cCue a0)) (y1 := (AV.int .i64 a1)) (enc := fun r : Int => (AV.int .i64 r)) (T := t_cue_blocked a0 a1) (nn_t1 (nn_e (fun _ => rfl) _) rfl) rfl ?_ r h
 unfold r_cue_blocked t_cue_blocked
 refine rf_wh (B := Unit) (R := Int) (fun (s1 : Int) v w3 => v = [(AV.int .i64 0), (AV.int .i64 s1)] ∧ σ = w3) (fun (b2 : Unit) (q : LS) => ∃ u4 u5, q = ((AX.exit 0), ([u4, u5] : List AV), σ)) (fun (b2 : Int) (q : LS) => ∃ u5, q = (AX.ret, ([(AV.int .i64 b2), u5] : List AV), σ)) ?_ ⟨rfl, rfl⟩ ?_ ?_
 ·intro s1 v w3 hI
  obtain ⟨rfl, rfl⟩ := hI
  refine rf_s (AV.int .i64 (a0.length : Int)) (lenS_sl _ _ _) ?_
  refine rf_s (AV.bool (decide (s1 < (a0.length : Int)))) rfl ?_
  refine rf_c (p := s1 < (a0.length : Int)) (fun c9 => ?_) (fun c9 => ?_)
  ·refine rf_o (fun x7 : CueD => (AV.rp (cCue x7))) (fun x7 hx7 => ix_at hx7) (fun x7 hx7 => ?_)
   refine rf_s (AV.rp (List.drop 8 (cCue x7))) rfl ?_
   refine rf_s (AV.bool x7.block) rfl ?_
   refine rf_cb (c := x7.block) (fun c8 => ?_) (fun c8 => ?_)
   ·exact rf_ret (rnd_ret (by simp) ⟨_, rfl⟩)
   refine rf_s (AV.int .i64 (IntKind.i64.wrap (s1 + 1))) rfl ?_
   exact rf_ret (rnd_go ⟨rfl, rfl⟩)
  exact rf_ret (rnd_brk (by simp) ⟨_, _, rfl⟩)
 ·intro b2 q hq
  obtain ⟨u4, u5, rfl⟩ := hq
  refine rf_bt rfl ?_
  exact rf_fin _ (fin_same _ _) ⟨rfl, rfl⟩
 ·intro b2 q hq
  obtain ⟨u5, rfl⟩ := hq
  refine rf_bf rfl ?_
  refine rf_bt rfl ?_
  exact rf_fin _ (fin_same _ _) ⟨rfl, rfl⟩

noncomputable def t_cue_moveAt_fn1 (a0 : MoveD) (a1 : KeyD) : Option Int :=
 (t_cue_compare a0.key a1).bind fun r1 =>
 some r1
theorem h_cue_moveAt_fn1 {a0 : MoveD} { a1 : KeyD} {σ : Heap} {r : Int} (h : t_cue_moveAt_fn1 a0 a1 = some r) : m_cue_moveAt_fn1 [(AV.agg (cMove a0)), (AV.agg (cKey a1))] σ = some ((AV.int .i64 r), σ) := by
 refine rf_wrap2 (f := r_cue_moveAt_fn1) (y0 := (AV.agg (cMove a0))) (y1 := (AV.agg (cKey a1))) (enc := fun r : Int => (AV.int .i64 r)) (T := t_cue_moveAt_fn1 a0 a1) rfl rfl ?_ r h
 unfold r_cue_moveAt_fn1 t_cue_moveAt_fn1
 refine rf_s (cMove a0) rfl ?_
 refine rf_s (cKey a1) rfl ?_
 refine rf_s (AV.agg (cKey a0.key)) rfl ?_
 refine rf_s (AV.agg (cKey a1)) rfl ?_
 refine rf_o (fun r1 : Int => ((AV.int .i64 r1), σ)) (fun r1 hr1 => h_cue_compare hr1) (fun r1 hr1 => ?_)
 exact rf_fin _ (fin_same _ _) ⟨rfl, rfl⟩

noncomputable def t_cue_state (a0 : (List CueD)) : Option (List (KeyD × EntryD)) :=
 forE a0 (fun (i10 : Nat) e9 (s3 : (List (KeyD × EntryD))) => (show Option (Lr (List (KeyD × EntryD)) (List (KeyD × EntryD)) Unit) from
   forE e9.moves (fun (i18 : Nat) e17 (s11 : (List (KeyD × EntryD))) => (show Option (Lr (List (KeyD × EntryD)) (List (KeyD × EntryD)) Unit) from
     (show Option (List (KeyD × EntryD)) from
       if e17.release = true then
        some (tdel e17.key s11)
       else
       some (tupd e17.key (⟨(⟨e17.key.unit, e17.key.param⟩ : KeyD), (⟨e17.value.level, e17.value.preset⟩ : ValueD), e9.number⟩ : EntryD) s11)).bind fun j26 =>
     some (.go j26))) (fun s11 => some s11) s3 (fun b12 =>
    some (.go b12)) (fun b12 =>
    none))) (fun s3 => some s3) ([] : List (KeyD × EntryD)) (fun b4 =>
  some b4) (fun b4 =>
  none)
theorem h_cue_state {a0 : (List CueD)} {σ : Heap} {r : (List (KeyD × EntryD))} (h : t_cue_state a0 = some r) : m_cue_state [(sl 11 cCue a0)] σ = some ((fmE (fun x => (AV.agg (cKey x))) (fun x => (AV.agg (cEntry x))) r), σ) := by
 refine rf_wrap1 (f := r_cue_state) (y0 := (sl 11 cCue a0)) (enc := fun r : (List (KeyD × EntryD)) => (fmE (fun x => (AV.agg (cKey x))) (fun x => (AV.agg (cEntry x))) r)) (T := t_cue_state a0) (nn_t1 (nn_e (fun _ => rfl) _) rfl) rfl ?_ r h
 unfold r_cue_state t_cue_state
 have hp1 : Hp σ σ [] := hp_nil σ
 have hp2 : Hp σ (σ ++ [Blk.map []]) [((AV.om σ.length), (Ct.m (List.map (fun p => ((fun x => (AV.agg (cKey x))) p.1, (fun x => (AV.agg (cEntry x))) p.2)) ([] : List (KeyD × EntryD)))))] := hp_om hp1
 refine rf_s (AV.int .i64 (a0.length : Int)) (lenS_sl _ _ _) ?_
 refine rf_for (B := (List (KeyD × EntryD))) (R := Unit) (fun (i10 : Nat) (s3 : (List (KeyD × EntryD))) v w5 => v = [(AV.int .i64 (i10 : Int))] ∧ Hp σ w5 [((AV.om σ.length), (Ct.m (List.map (fun p => ((fun x => (AV.agg (cKey x))) p.1, (fun x => (AV.agg (cEntry x))) p.2)) s3)))]) (fun (b4 : (List (KeyD × EntryD))) (q : LS) => ∃ u11 w6, q = ((AX.exit 0), ([u11] : List AV), w6) ∧ Hp σ w6 [((AV.om σ.length), (Ct.m (List.map (fun p => ((fun x => (AV.agg (cKey x))) p.1, (fun x => (AV.agg (cEntry x))) p.2)) b4)))]) (fun (b4 : Unit) (q : LS) => False) ?_ ?_ ⟨rfl, hp2⟩ ?_ ?_
 ·intro hle9 i10 e9 s3 v w5 he9 hI
  obtain ⟨rfl, hp7⟩ := hI
  refine rf_s (AV.bool true) (ix_lt he9) ?_
  refine rf_ct ?_
  refine rf_s (AV.rp (cCue e9)) (ix_for he9) ?_
  refine rf_s (AV.agg (cCue e9)) rfl ?_
  refine rf_s (cCue e9) rfl ?_
  refine rf_s (cCue e9) (sp_cCue _ _ rfl) ?_
  refine rf_s (sl 8 cMove e9.moves) rfl ?_
  refine rf_s (AV.int .i64 (e9.moves.length : Int)) (lenS_sl _ _ _) ?_
  refine rf_for (B := (List (KeyD × EntryD))) (R := Unit) (fun (i18 : Nat) (s11 : (List (KeyD × EntryD))) v w13 => v = [(AV.lbx (cCue e9)), (AV.int .i64 (i18 : Int))] ∧ Hp σ w13 [((AV.om σ.length), (Ct.m (List.map (fun p => ((fun x => (AV.agg (cKey x))) p.1, (fun x => (AV.agg (cEntry x))) p.2)) s11)))]) (fun (b12 : (List (KeyD × EntryD))) (q : LS) => ∃ u5 u18 w14, q = ((AX.exit 2), ([u5, u18] : List AV), w14) ∧ Hp σ w14 [((AV.om σ.length), (Ct.m (List.map (fun p => ((fun x => (AV.agg (cKey x))) p.1, (fun x => (AV.agg (cEntry x))) p.2)) b12)))]) (fun (b12 : Unit) (q : LS) => False) ?_ ?_ ⟨rfl, hp7⟩ ?_ ?_
  ·intro hle17 i18 e17 s11 v w13 he17 hI
   obtain ⟨rfl, hp15⟩ := hI
   refine rf_s (AV.bool true) (ix_lt he17) ?_
   refine rf_ct ?_
   refine rf_s (AV.rp (cMove e17)) (ix_for he17) ?_
   refine rf_s (AV.agg (cMove e17)) rfl ?_
   refine rf_s (cMove e17) rfl ?_
   refine rf_s (cMove e17) (sp_cMove _ _ rfl) ?_
   refine rf_s (AV.bool e17.release) rfl ?_
   refine rf_b (ω := (List (KeyD × EntryD))) (fun j26 a => ∃ w27, a = (([(AV.lbx (cCue e9))] : List AV), w27) ∧ Hp σ w27 [((AV.om σ.length), (Ct.m (List.map (fun p => ((fun x => (AV.agg (cKey x))) p.1, (fun x => (AV.agg (cEntry x))) p.2)) j26)))]) (
     by
      refine rf_cb (c := e17.release) (fun c25 => ?_) (fun c25 => ?_)
      ·refine rf_s (AV.agg (cKey e17.key)) rfl ?_
       obtain ⟨w19, e21, hp20⟩ := hp_delT (ek := (.s [0, 2])) (eK := (fun x => (AV.agg (cKey x)))) (eV := (fun x => (AV.agg (cEntry x)))) hp15 0 rfl eqk_Key e17.key rfl
       change Hp σ w19 [((AV.om σ.length), (Ct.m (List.map (fun p => ((fun x => (AV.agg (cKey x))) p.1, (fun x => (AV.agg (cEntry x))) p.2)) (tdel e17.key s11))))] at hp20
       refine rf_s w19 e21 ?_
       exact rf_ret ⟨_, rfl, hp20⟩
      refine rf_s (AV.agg (cKey e17.key)) rfl ?_
      refine rf_s (AV.agg (cKey e17.key)) rfl ?_
      refine rf_s (AV.agg (cValue e17.value)) rfl ?_
      refine rf_s _ rfl ?_
      refine rf_s (AV.int .i64 e9.number) rfl ?_
      refine rf_s (AV.agg (cEntry (⟨(⟨e17.key.unit, e17.key.param⟩ : KeyD), (⟨e17.value.level, e17.value.preset⟩ : ValueD), e9.number⟩ : EntryD))) rfl ?_
      obtain ⟨w22, e24, hp23⟩ := hp_updT (ek := (.s [0, 2])) (eK := (fun x => (AV.agg (cKey x)))) (eV := (fun x => (AV.agg (cEntry x)))) hp15 0 rfl eqk_Key e17.key (⟨(⟨e17.key.unit, e17.key.param⟩ : KeyD), (⟨e17.value.level, e17.value.preset⟩ : ValueD), e9.number⟩ : EntryD) rfl
      change Hp σ w22 [((AV.om σ.length), (Ct.m (List.map (fun p => ((fun x => (AV.agg (cKey x))) p.1, (fun x => (AV.agg (cEntry x))) p.2)) (tupd e17.key (⟨(⟨e17.key.unit, e17.key.param⟩ : KeyD), (⟨e17.value.level, e17.value.preset⟩ : ValueD), e9.number⟩ : EntryD) s11))))] at hp23
      refine rf_s w22 e24 ?_
      exact rf_ret ⟨_, rfl, hp23⟩
     ) (fun j26 a ha => ?_)
   obtain ⟨w27, rfl, hp28⟩ := ha
   refine rf_s (AV.int .i64 ((i18 + 1 : Nat) : Int)) (ix_inc he17 hle17) ?_
   exact rf_ret (rnd_go ⟨rfl, hp28⟩)
  ·intro hl s11 v w13 hI
   obtain ⟨rfl, hp15⟩ := hI
   refine rf_s (AV.bool false) (ix_end _) ?_
   refine rf_cf ?_
   exact rf_ret ⟨by simp, ⟨_, _, _, rfl, hp15⟩⟩
  ·intro hl b12 q hq
   obtain ⟨u5, u18, w14, rfl, hp16⟩ := hq
   refine rf_bt rfl ?_
   refine rf_s (AV.int .i64 ((i10 + 1 : Nat) : Int)) (ix_inc he9 hle9) ?_
   exact rf_ret (rnd_go ⟨rfl, hp16⟩)
  ·intro hl b12 q hq
   exact False.elim hq
 ·intro hl s3 v w5 hI
  obtain ⟨rfl, hp7⟩ := hI
  refine rf_s (AV.bool false) (ix_end _) ?_
  refine rf_cf ?_
  exact rf_ret ⟨by simp, ⟨_, _, rfl, hp7⟩⟩
 ·intro hl b4 q hq
  obtain ⟨u11, w6, rfl, hp8⟩ := hq
  refine rf_bt rfl ?_
  exact rf_fin _ (hp_fin hp8 (fzv_om hp8 (k := 0) rfl (by intro p hp; obtain ⟨x, _, rfl⟩ := List.mem_map.1 hp; exact ⟨(fz_agg (fz_cKey _)), (fz_agg (fz_cEntry _))⟩))) ⟨rfl, rfl⟩
 ·intro hl b4 q hq
  exact False.elim hq

noncomputable def t_cue_move (a0 : (List (KeyD × EntryD))) (a1 : KeyD) : Option MoveD :=
 some (⟨(⟨a1.unit, a1.param⟩ : KeyD), (⟨(((tfind a1 a0).getD (⟨(⟨0, (⟨#[]⟩ : ByteArray)⟩ : KeyD), (⟨0, 0⟩ : ValueD), 0⟩ : EntryD)).value).level, (((tfind a1 a0).getD (⟨(⟨0, (⟨#[]⟩ : ByteArray)⟩ : KeyD), (⟨0, 0⟩ : ValueD), 0⟩ : EntryD)).value).preset⟩ : ValueD), (!((tfind a1 a0).isSome)), false, 0, 0⟩ : MoveD)
theorem h_cue_move {a0 : (List (KeyD × EntryD))} { a1 : KeyD} {σ : Heap} {r : MoveD} (h : t_cue_move a0 a1 = some r) : m_cue_move [(fmE (fun x => (AV.agg (cKey x))) (fun x => (AV.agg (cEntry x))) a0), (AV.agg (cKey a1))] σ = some ((AV.agg (cMove r)), σ) := by
 refine rf_wrap2 (f := r_cue_move) (y0 := (fmE (fun x => (AV.agg (cKey x))) (fun x => (AV.agg (cEntry x))) a0)) (y1 := (AV.agg (cKey a1))) (enc := fun r : MoveD => (AV.agg (cMove r))) (T := t_cue_move a0 a1) rfl rfl ?_ r h
 unfold r_cue_move t_cue_move
 refine rf_s (cKey a1) rfl ?_
 refine rf_s (AV.agg (cKey a1)) rfl ?_
 refine rf_s (AV.tup [(AV.agg (cEntry ((tfind a1 a0).getD (⟨(⟨0, (⟨#[]⟩ : ByteArray)⟩ : KeyD), (⟨0, 0⟩ : ValueD), 0⟩ : EntryD)))), (AV.bool (tfind a1 a0).isSome)]) (fm_lookOkT (ek := (.s [0, 2])) (eK := (fun x => (AV.agg (cKey x)))) (eV := (fun x => (AV.agg (cEntry x)))) eqk_Key a1 (⟨(⟨0, (⟨#[]⟩ : ByteArray)⟩ : KeyD), (⟨0, 0⟩ : ValueD), 0⟩ : EntryD) rfl) ?_
 refine rf_s (AV.agg (cEntry ((tfind a1 a0).getD (⟨(⟨0, (⟨#[]⟩ : ByteArray)⟩ : KeyD), (⟨0, 0⟩ : ValueD), 0⟩ : EntryD)))) rfl ?_
 refine rf_s (AV.bool (tfind a1 a0).isSome) rfl ?_
 refine rf_s (cEntry ((tfind a1 a0).getD (⟨(⟨0, (⟨#[]⟩ : ByteArray)⟩ : KeyD), (⟨0, 0⟩ : ValueD), 0⟩ : EntryD))) rfl ?_
 refine rf_s (cEntry ((tfind a1 a0).getD (⟨(⟨0, (⟨#[]⟩ : ByteArray)⟩ : KeyD), (⟨0, 0⟩ : ValueD), 0⟩ : EntryD))) (sp_cEntry _ _ rfl) ?_
 refine rf_s (AV.agg (cKey a1)) rfl ?_
 refine rf_s (AV.agg (cValue (((tfind a1 a0).getD (⟨(⟨0, (⟨#[]⟩ : ByteArray)⟩ : KeyD), (⟨0, 0⟩ : ValueD), 0⟩ : EntryD)).value))) rfl ?_
 refine rf_s (AV.bool (!((tfind a1 a0).isSome))) rfl ?_
 refine rf_s (AV.agg (cMove (⟨(⟨a1.unit, a1.param⟩ : KeyD), (⟨(((tfind a1 a0).getD (⟨(⟨0, (⟨#[]⟩ : ByteArray)⟩ : KeyD), (⟨0, 0⟩ : ValueD), 0⟩ : EntryD)).value).level, (((tfind a1 a0).getD (⟨(⟨0, (⟨#[]⟩ : ByteArray)⟩ : KeyD), (⟨0, 0⟩ : ValueD), 0⟩ : EntryD)).value).preset⟩ : ValueD), (!((tfind a1 a0).isSome)), false, 0, 0⟩ : MoveD))) rfl ?_
 refine rf_s (cMove (⟨(⟨a1.unit, a1.param⟩ : KeyD), (⟨(((tfind a1 a0).getD (⟨(⟨0, (⟨#[]⟩ : ByteArray)⟩ : KeyD), (⟨0, 0⟩ : ValueD), 0⟩ : EntryD)).value).level, (((tfind a1 a0).getD (⟨(⟨0, (⟨#[]⟩ : ByteArray)⟩ : KeyD), (⟨0, 0⟩ : ValueD), 0⟩ : EntryD)).value).preset⟩ : ValueD), (!((tfind a1 a0).isSome)), false, 0, 0⟩ : MoveD)) rfl ?_
 refine rf_s (cMove (⟨(⟨a1.unit, a1.param⟩ : KeyD), (⟨(((tfind a1 a0).getD (⟨(⟨0, (⟨#[]⟩ : ByteArray)⟩ : KeyD), (⟨0, 0⟩ : ValueD), 0⟩ : EntryD)).value).level, (((tfind a1 a0).getD (⟨(⟨0, (⟨#[]⟩ : ByteArray)⟩ : KeyD), (⟨0, 0⟩ : ValueD), 0⟩ : EntryD)).value).preset⟩ : ValueD), (!((tfind a1 a0).isSome)), false, 0, 0⟩ : MoveD)) (sp_cMove _ _ rfl) ?_
 refine rf_s (AV.agg (cMove (⟨(⟨a1.unit, a1.param⟩ : KeyD), (⟨(((tfind a1 a0).getD (⟨(⟨0, (⟨#[]⟩ : ByteArray)⟩ : KeyD), (⟨0, 0⟩ : ValueD), 0⟩ : EntryD)).value).level, (((tfind a1 a0).getD (⟨(⟨0, (⟨#[]⟩ : ByteArray)⟩ : KeyD), (⟨0, 0⟩ : ValueD), 0⟩ : EntryD)).value).preset⟩ : ValueD), (!((tfind a1 a0).isSome)), false, 0, 0⟩ : MoveD))) rfl ?_
 exact rf_fin _ (fin_same _ _) ⟨rfl, rfl⟩

noncomputable def t_R5_At (a0 : (List CueD)) (a1 : Int) : Option Int :=
 forE a0 (fun (i8 : Nat) e7 (s1 : Unit) => (show Option (Lr Unit Unit Int) from
   if e7.number = a1 then
    some (.ret (i8 : Int))
   else
   some (.go ()))) (fun s1 => some ()) () (fun b2 =>
  some (-1)) (fun b2 =>
  some b2)
theorem h_R5_At {a0 : (List CueD)} { a1 : Int} {σ : Heap} {r : Int} (h : t_R5_At a0 a1 = some r) : m_R5_At [(sl 11 cCue a0), (AV.int .i64 a1)] σ = some ((AV.int .i64 r), σ) := by
 refine rf_wrap2 (f := r_R5_At) (y0 := (sl 11 cCue a0)) (y1 := (AV.int .i64 a1)) (enc := fun r : Int => (AV.int .i64 r)) (T := t_R5_At a0 a1) (nn_t1 (nn_e (fun _ => rfl) _) rfl) rfl ?_ r h
 unfold r_R5_At t_R5_At
 refine rf_s (AV.int .i64 (a0.length : Int)) (lenS_sl _ _ _) ?_
 refine rf_for (B := Unit) (R := Int) (fun (i8 : Nat) (s1 : Unit) v w3 => v = [(AV.int .i64 0), (AV.int .i64 (i8 : Int))] ∧ σ = w3) (fun (b2 : Unit) (q : LS) => ∃ u4 u9, q = ((AX.exit 0), ([u4, u9] : List AV), σ)) (fun (b2 : Int) (q : LS) => ∃ u9, q = (AX.ret, ([(AV.int .i64 b2), u9] : List AV), σ)) ?_ ?_ ⟨rfl, rfl⟩ ?_ ?_
 ·intro hle7 i8 e7 s1 v w3 he7 hI
  obtain ⟨rfl, rfl⟩ := hI
  refine rf_s (AV.bool true) (ix_lt he7) ?_
  refine rf_ct ?_
  refine rf_s (AV.rp (cCue e7)) (ix_for he7) ?_
  refine rf_s (AV.agg (cCue e7)) rfl ?_
  refine rf_s (cCue e7) rfl ?_
  refine rf_s (cCue e7) (sp_cCue _ _ rfl) ?_
  refine rf_s (AV.int .i64 e7.number) rfl ?_
  refine rf_s (AV.bool (decide (e7.number = a1))) (aEq _ _ _) ?_
  refine rf_c (p := e7.number = a1) (fun c9 => ?_) (fun c9 => ?_)
  ·exact rf_ret (rnd_ret (by simp) ⟨_, rfl⟩)
  refine rf_s (AV.int .i64 ((i8 + 1 : Nat) : Int)) (ix_inc he7 hle7) ?_
  exact rf_ret (rnd_go ⟨rfl, rfl⟩)
 ·intro hl s1 v w3 hI
  obtain ⟨rfl, rfl⟩ := hI
  refine rf_s (AV.bool false) (ix_end _) ?_
  refine rf_cf ?_
  exact rf_ret ⟨by simp, ⟨_, _, rfl⟩⟩
 ·intro hl b2 q hq
  obtain ⟨u4, u9, rfl⟩ := hq
  refine rf_bt rfl ?_
  exact rf_fin _ (fin_same _ _) ⟨rfl, rfl⟩
 ·intro hl b2 q hq
  obtain ⟨u9, rfl⟩ := hq
  refine rf_bf rfl ?_
  refine rf_bt rfl ?_
  exact rf_fin _ (fin_same _ _) ⟨rfl, rfl⟩

noncomputable def t_R5_place (a0 : (List EntryD)) (a1 : KeyD) : Option (Int × Bool) :=
 whE (fun (s1 : Int) => (show Option (Lr Int Int Unit) from
   (if decide (s1 < (a0.length : Int)) = true then tIx a0 s1 else some default).bind fun x7 =>
   if ((decide (s1 < (a0.length : Int))) && (((decide (x7.key.unit < a1.unit)) || ((decide (x7.key.unit = a1.unit)) && (Op.bytesLess x7.key.param.toList a1.param.toList))))) = true then
    some (.go (IntKind.i64.wrap (s1 + 1)))
   else
   some (.brk s1))) 0 (fun b2 =>
  (if decide (b2 < (a0.length : Int)) = true then tIx a0 b2 else some default).bind fun x9 =>
  some (b2, ((decide (b2 < (a0.length : Int))) && (decide (x9.key = a1))))) (fun b2 =>
  none)
theorem h_R5_place {a0 : (List EntryD)} { a1 : KeyD} {σ : Heap} {r : (Int × Bool)} (h : t_R5_place a0 a1 = some r) : m_R5_place [(sl 5 cEntry a0), (AV.agg (cKey a1))] σ = some ((AV.tup [(AV.int .i64 r.1), (AV.bool r.2)]), σ) := by
 refine rf_wrap2 (f := r_R5_place) (y0 := (sl 5 cEntry a0)) (y1 := (AV.agg (cKey a1))) (enc := fun r : (Int × Bool) => (AV.tup [(AV.int .i64 r.1), (AV.bool r.2)])) (T := t_R5_place a0 a1) rfl rfl ?_ r h
 unfold r_R5_place t_R5_place
 refine rf_s (cKey a1) rfl ?_
 refine rf_wh (B := Int) (R := Unit) (fun (s1 : Int) v w3 => v = [(AV.lbx (cKey a1)), (AV.int .i64 s1)] ∧ σ = w3) (fun (b2 : Int) (q : LS) => q = ((AX.exit 0), ([(AV.lbx (cKey a1)), (AV.int .i64 b2)] : List AV), σ)) (fun (b2 : Unit) (q : LS) => False) ?_ ⟨rfl, rfl⟩ ?_ ?_
 ·intro s1 v w3 hI
  obtain ⟨rfl, rfl⟩ := hI
  refine rf_s (AV.int .i64 (a0.length : Int)) (lenS_sl _ _ _) ?_
  refine rf_s (AV.bool (decide (s1 < (a0.length : Int)))) rfl ?_
  refine rf_gt (sl 5 cEntry a0) (fun hg => rfl) ?_
  refine rf_gt (AV.int .i64 s1) (fun hg => rfl) ?_
  refine rf_gto (ω := EntryD) (fun x7 => (AV.rp (cEntry x7))) (fun hg x7 hx7 => by
    simp only [hg, Bool.true_and, cond_true]; first | done | exact ix_at hx7) (fun x7 hx7 => ?_)
  refine rf_gt (AV.rp (cEntry x7)) (fun hg => by
    simp only [hg, Bool.true_and, cond_true]; first | done | exact rfl) ?_
  refine rf_gt (AV.agg (cKey x7.key)) (fun hg => by
    simp only [hg, Bool.true_and, cond_true]; first | done | exact rfl) ?_
  refine rf_gt (AV.agg (cKey a1)) (fun hg => rfl) ?_
  refine rf_gt (AV.bool (((decide (x7.key.unit < a1.unit)) || ((decide (x7.key.unit = a1.unit)) && (Op.bytesLess x7.key.param.toList a1.param.toList))))) (fun hg => by
    simp only [hg, Bool.true_and, cond_true]; first | done | exact (quiet_of (h_R4_Before (σ := σ) (r := ((decide (x7.key.unit < a1.unit)) || ((decide (x7.key.unit = a1.unit)) && (Op.bytesLess x7.key.param.toList a1.param.toList)))) rfl))) ?_
  refine rf_s (AV.bool ((decide (s1 < (a0.length : Int))) && (((decide (x7.key.unit < a1.unit)) || ((decide (x7.key.unit = a1.unit)) && (Op.bytesLess x7.key.param.toList a1.param.toList)))))) (pk_and _ _) ?_
  refine rf_cb (c := ((decide (s1 < (a0.length : Int))) && (((decide (x7.key.unit < a1.unit)) || ((decide (x7.key.unit = a1.unit)) && (Op.bytesLess x7.key.param.toList a1.param.toList)))))) (fun c8 => ?_) (fun c8 => ?_)
  ·refine rf_s (AV.int .i64 (IntKind.i64.wrap (s1 + 1))) rfl ?_
   exact rf_ret (rnd_go ⟨rfl, rfl⟩)
  exact rf_ret (rnd_brk (by simp) rfl)
 ·intro b2 q hq
  subst hq
  refine rf_bt rfl ?_
  refine rf_s (AV.int .i64 (a0.length : Int)) (lenS_sl _ _ _) ?_
  refine rf_s (AV.bool (decide (b2 < (a0.length : Int)))) rfl ?_
  refine rf_gt (sl 5 cEntry a0) (fun hg => rfl) ?_
  refine rf_gt (AV.int .i64 b2) (fun hg => rfl) ?_
  refine rf_gto (ω := EntryD) (fun x9 => (AV.rp (cEntry x9))) (fun hg x9 hx9 => by
    simp only [hg, Bool.true_and, cond_true]; first | done | exact ix_at hx9) (fun x9 hx9 => ?_)
  refine rf_gt (AV.rp (cEntry x9)) (fun hg => by
    simp only [hg, Bool.true_and, cond_true]; first | done | exact rfl) ?_
  refine rf_gt (AV.agg (cKey x9.key)) (fun hg => by
    simp only [hg, Bool.true_and, cond_true]; first | done | exact rfl) ?_
  refine rf_gt (AV.agg (cKey a1)) (fun hg => rfl) ?_
  refine rf_gt (AV.bool (decide (x9.key = a1))) (fun hg => by
    simp only [hg, Bool.true_and, cond_true]; first | done | exact (eq_Key _ _)) ?_
  refine rf_s (AV.bool ((decide (b2 < (a0.length : Int))) && (decide (x9.key = a1)))) (pk_and _ _) ?_
  exact rf_fin _ (fin_same _ _) ⟨rfl, rfl⟩
 ·intro b2 q hq
  exact False.elim hq

noncomputable def t_R5_moveOf (a0 : (List MoveD)) (a1 : KeyD) : Option (Int × Bool) :=
 whE (fun (s1 : Int) => (show Option (Lr Int Int Unit) from
   (if decide (s1 < (a0.length : Int)) = true then tIx a0 s1 else some default).bind fun x7 =>
   if ((decide (s1 < (a0.length : Int))) && (((decide (x7.key.unit < a1.unit)) || ((decide (x7.key.unit = a1.unit)) && (Op.bytesLess x7.key.param.toList a1.param.toList))))) = true then
    some (.go (IntKind.i64.wrap (s1 + 1)))
   else
   some (.brk s1))) 0 (fun b2 =>
  (if decide (b2 < (a0.length : Int)) = true then tIx a0 b2 else some default).bind fun x9 =>
  some (b2, ((decide (b2 < (a0.length : Int))) && (decide (x9.key = a1))))) (fun b2 =>
  none)
theorem h_R5_moveOf {a0 : (List MoveD)} { a1 : KeyD} {σ : Heap} {r : (Int × Bool)} (h : t_R5_moveOf a0 a1 = some r) : m_R5_moveOf [(sl 8 cMove a0), (AV.agg (cKey a1))] σ = some ((AV.tup [(AV.int .i64 r.1), (AV.bool r.2)]), σ) := by
 refine rf_wrap2 (f := r_R5_moveOf) (y0 := (sl 8 cMove a0)) (y1 := (AV.agg (cKey a1))) (enc := fun r : (Int × Bool) => (AV.tup [(AV.int .i64 r.1), (AV.bool r.2)])) (T := t_R5_moveOf a0 a1) rfl rfl ?_ r h
 unfold r_R5_moveOf t_R5_moveOf
 refine rf_s (cKey a1) rfl ?_
 refine rf_wh (B := Int) (R := Unit) (fun (s1 : Int) v w3 => v = [(AV.lbx (cKey a1)), (AV.int .i64 s1)] ∧ σ = w3) (fun (b2 : Int) (q : LS) => q = ((AX.exit 0), ([(AV.lbx (cKey a1)), (AV.int .i64 b2)] : List AV), σ)) (fun (b2 : Unit) (q : LS) => False) ?_ ⟨rfl, rfl⟩ ?_ ?_
 ·intro s1 v w3 hI
  obtain ⟨rfl, rfl⟩ := hI
  refine rf_s (AV.int .i64 (a0.length : Int)) (lenS_sl _ _ _) ?_
  refine rf_s (AV.bool (decide (s1 < (a0.length : Int)))) rfl ?_
  refine rf_gt (sl 8 cMove a0) (fun hg => rfl) ?_
  refine rf_gt (AV.int .i64 s1) (fun hg => rfl) ?_
  refine rf_gto (ω := MoveD) (fun x7 => (AV.rp (cMove x7))) (fun hg x7 hx7 => by
    simp only [hg, Bool.true_and, cond_true]; first | done | exact ix_at hx7) (fun x7 hx7 => ?_)
  refine rf_gt (AV.rp (cMove x7)) (fun hg => by
    simp only [hg, Bool.true_and, cond_true]; first | done | exact rfl) ?_
  refine rf_gt (AV.agg (cKey x7.key)) (fun hg => by
    simp only [hg, Bool.true_and, cond_true]; first | done | exact rfl) ?_
  refine rf_gt (AV.agg (cKey a1)) (fun hg => rfl) ?_
  refine rf_gt (AV.bool (((decide (x7.key.unit < a1.unit)) || ((decide (x7.key.unit = a1.unit)) && (Op.bytesLess x7.key.param.toList a1.param.toList))))) (fun hg => by
    simp only [hg, Bool.true_and, cond_true]; first | done | exact (quiet_of (h_R4_Before (σ := σ) (r := ((decide (x7.key.unit < a1.unit)) || ((decide (x7.key.unit = a1.unit)) && (Op.bytesLess x7.key.param.toList a1.param.toList)))) rfl))) ?_
  refine rf_s (AV.bool ((decide (s1 < (a0.length : Int))) && (((decide (x7.key.unit < a1.unit)) || ((decide (x7.key.unit = a1.unit)) && (Op.bytesLess x7.key.param.toList a1.param.toList)))))) (pk_and _ _) ?_
  refine rf_cb (c := ((decide (s1 < (a0.length : Int))) && (((decide (x7.key.unit < a1.unit)) || ((decide (x7.key.unit = a1.unit)) && (Op.bytesLess x7.key.param.toList a1.param.toList)))))) (fun c8 => ?_) (fun c8 => ?_)
  ·refine rf_s (AV.int .i64 (IntKind.i64.wrap (s1 + 1))) rfl ?_
   exact rf_ret (rnd_go ⟨rfl, rfl⟩)
  exact rf_ret (rnd_brk (by simp) rfl)
 ·intro b2 q hq
  subst hq
  refine rf_bt rfl ?_
  refine rf_s (AV.int .i64 (a0.length : Int)) (lenS_sl _ _ _) ?_
  refine rf_s (AV.bool (decide (b2 < (a0.length : Int)))) rfl ?_
  refine rf_gt (sl 8 cMove a0) (fun hg => rfl) ?_
  refine rf_gt (AV.int .i64 b2) (fun hg => rfl) ?_
  refine rf_gto (ω := MoveD) (fun x9 => (AV.rp (cMove x9))) (fun hg x9 hx9 => by
    simp only [hg, Bool.true_and, cond_true]; first | done | exact ix_at hx9) (fun x9 hx9 => ?_)
  refine rf_gt (AV.rp (cMove x9)) (fun hg => by
    simp only [hg, Bool.true_and, cond_true]; first | done | exact rfl) ?_
  refine rf_gt (AV.agg (cKey x9.key)) (fun hg => by
    simp only [hg, Bool.true_and, cond_true]; first | done | exact rfl) ?_
  refine rf_gt (AV.agg (cKey a1)) (fun hg => rfl) ?_
  refine rf_gt (AV.bool (decide (x9.key = a1))) (fun hg => by
    simp only [hg, Bool.true_and, cond_true]; first | done | exact (eq_Key _ _)) ?_
  refine rf_s (AV.bool ((decide (b2 < (a0.length : Int))) && (decide (x9.key = a1)))) (pk_and _ _) ?_
  exact rf_fin _ (fin_same _ _) ⟨rfl, rfl⟩
 ·intro b2 q hq
  exact False.elim hq

noncomputable def t_R5_blocked (a0 : (List CueD)) (a1 : Int) (a2 : KeyD) : Option Int :=
 whE (fun (s1 : Int) => (show Option (Lr Int Unit Int) from
   if s1 < (a0.length : Int) then
    (tIx a0 s1).bind fun x7 =>
    (t_R5_moveOf x7.moves a2).bind fun r8 =>
    if r8.2 = true then
     some (.ret (-1))
    else
    (tIx a0 s1).bind fun x9 =>
    if x9.block = true then
     some (.ret s1)
    else
    some (.go (IntKind.i64.wrap (s1 + 1)))
   else
   some (.brk ()))) a1 (fun b2 =>
  some (-1)) (fun b2 =>
  some b2)
theorem h_R5_blocked {a0 : (List CueD)} { a1 : Int} { a2 : KeyD} {σ : Heap} {r : Int} (h : t_R5_blocked a0 a1 a2 = some r) : m_R5_blocked [(sl 11 cCue a0), (AV.int .i64 a1), (AV.agg (cKey a2))] σ = some ((AV.int .i64 r), σ) := by
 refine rf_wrap3 (f := r_R5_blocked) (y0 := (sl 11 cCue a0)) (y1 := (AV.int .i64 a1)) (y2 := (AV.agg (cKey a2))) (enc := fun r : Int => (AV.int .i64 r)) (T := t_R5_blocked a0 a1 a2) (nn_t1 (nn_e (fun _ => rfl) _) rfl) rfl ?_ r h
 unfold r_R5_blocked t_R5_blocked
 refine rf_s (cKey a2) rfl ?_
 refine rf_wh (B := Unit) (R := Int) (fun (s1 : Int) v w3 => v = [(AV.lbx (cKey a2)), (AV.int .i64 0), (AV.int .i64 s1)] ∧ σ = w3) (fun (b2 : Unit) (q : LS) => ∃ u5 u6 u7, q = ((AX.exit 0), ([u5, u6, u7] : List AV), σ)) (fun (b2 : Int) (q : LS) => ∃ u5 u7, q = (AX.ret, ([u5, (AV.int .i64 b2), u7] : List AV), σ)) ?_ ⟨rfl, rfl⟩ ?_ ?_
 ·intro s1 v w3 hI
  obtain ⟨rfl, rfl⟩ := hI
  refine rf_s (AV.int .i64 (a0.length : Int)) (lenS_sl _ _ _) ?_
  refine rf_s (AV.bool (decide (s1 < (a0.length : Int)))) rfl ?_
  refine rf_c (p := s1 < (a0.length : Int)) (fun c12 => ?_) (fun c12 => ?_)
  ·refine rf_o (fun x7 : CueD => (AV.rp (cCue x7))) (fun x7 hx7 => ix_at hx7) (fun x7 hx7 => ?_)
   refine rf_s (AV.rp (List.drop 10 (cCue x7))) rfl ?_
   refine rf_s (sl 8 cMove x7.moves) rfl ?_
   refine rf_s (AV.agg (cKey a2)) rfl ?_
   refine rf_o (fun r8 : (Int × Bool) => (AV.tup [(AV.int .i64 r8.1), (AV.bool r8.2)])) (fun r8 hr8 => (quiet_of (h_R5_moveOf hr8))) (fun r8 hr8 => ?_)
   refine rf_s (AV.int .i64 r8.1) rfl ?_
   refine rf_s (AV.bool r8.2) rfl ?_
   refine rf_cb (c := r8.2) (fun c11 => ?_) (fun c11 => ?_)
   ·exact rf_ret (rnd_ret (by simp) ⟨_, _, rfl⟩)
   refine rf_o (fun x9 : CueD => (AV.rp (cCue x9))) (fun x9 hx9 => ix_at hx9) (fun x9 hx9 => ?_)
   refine rf_s (AV.rp (List.drop 8 (cCue x9))) rfl ?_
   refine rf_s (AV.bool x9.block) rfl ?_
   refine rf_cb (c := x9.block) (fun c10 => ?_) (fun c10 => ?_)
   ·exact rf_ret (rnd_ret (by simp) ⟨_, _, rfl⟩)
   refine rf_s (AV.int .i64 (IntKind.i64.wrap (s1 + 1))) rfl ?_
   exact rf_ret (rnd_go ⟨rfl, rfl⟩)
  exact rf_ret (rnd_brk (by simp) ⟨_, _, _, rfl⟩)
 ·intro b2 q hq
  obtain ⟨u5, u6, u7, rfl⟩ := hq
  refine rf_bt rfl ?_
  exact rf_fin _ (fin_same _ _) ⟨rfl, rfl⟩
 ·intro b2 q hq
  obtain ⟨u5, u7, rfl⟩ := hq
  refine rf_bf rfl ?_
  refine rf_bt rfl ?_
  exact rf_fin _ (fin_same _ _) ⟨rfl, rfl⟩

noncomputable def t_R5_valued (a0 : (List EntryD)) (a1 : KeyD) : Option MoveD :=
 (t_R5_place a0 a1).bind fun r1 =>
 if r1.2 = true then
  (tIx a0 r1.1).bind fun x2 =>
  some (⟨(⟨a1.unit, a1.param⟩ : KeyD), (⟨x2.value.level, x2.value.preset⟩ : ValueD), false, false, 0, 0⟩ : MoveD)
 else
 some (⟨(⟨a1.unit, a1.param⟩ : KeyD), (⟨0, 0⟩ : ValueD), true, false, 0, 0⟩ : MoveD)
theorem h_R5_valued {a0 : (List EntryD)} { a1 : KeyD} {σ : Heap} {r : MoveD} (h : t_R5_valued a0 a1 = some r) : m_R5_valued [(sl 5 cEntry a0), (AV.agg (cKey a1))] σ = some ((AV.agg (cMove r)), σ) := by
 refine rf_wrap2 (f := r_R5_valued) (y0 := (sl 5 cEntry a0)) (y1 := (AV.agg (cKey a1))) (enc := fun r : MoveD => (AV.agg (cMove r))) (T := t_R5_valued a0 a1) rfl rfl ?_ r h
 unfold r_R5_valued t_R5_valued
 refine rf_s (cKey a1) rfl ?_
 refine rf_s (AV.agg (cKey a1)) rfl ?_
 refine rf_o (fun r1 : (Int × Bool) => ((AV.tup [(AV.int .i64 r1.1), (AV.bool r1.2)]), σ)) (fun r1 hr1 => h_R5_place hr1) (fun r1 hr1 => ?_)
 refine rf_s (AV.int .i64 r1.1) rfl ?_
 refine rf_s (AV.bool r1.2) rfl ?_
 refine rf_cb (c := r1.2) (fun c3 => ?_) (fun c3 => ?_)
 ·refine rf_s (AV.agg (cKey a1)) rfl ?_
  refine rf_o (fun x2 : EntryD => (AV.rp (cEntry x2))) (fun x2 hx2 => ix_at hx2) (fun x2 hx2 => ?_)
  refine rf_s (AV.rp (List.drop 2 (cEntry x2))) rfl ?_
  refine rf_s (AV.agg (cValue x2.value)) rfl ?_
  refine rf_s (AV.agg (cMove (⟨(⟨a1.unit, a1.param⟩ : KeyD), (⟨x2.value.level, x2.value.preset⟩ : ValueD), false, false, 0, 0⟩ : MoveD))) rfl ?_
  refine rf_s (cMove (⟨(⟨a1.unit, a1.param⟩ : KeyD), (⟨x2.value.level, x2.value.preset⟩ : ValueD), false, false, 0, 0⟩ : MoveD)) rfl ?_
  refine rf_s (cMove (⟨(⟨a1.unit, a1.param⟩ : KeyD), (⟨x2.value.level, x2.value.preset⟩ : ValueD), false, false, 0, 0⟩ : MoveD)) (sp_cMove _ _ rfl) ?_
  refine rf_s (AV.agg (cMove (⟨(⟨a1.unit, a1.param⟩ : KeyD), (⟨x2.value.level, x2.value.preset⟩ : ValueD), false, false, 0, 0⟩ : MoveD))) rfl ?_
  exact rf_fin _ (fin_same _ _) ⟨rfl, rfl⟩
 refine rf_s (AV.agg (cKey a1)) rfl ?_
 refine rf_s (AV.agg (cMove (⟨(⟨a1.unit, a1.param⟩ : KeyD), (⟨0, 0⟩ : ValueD), true, false, 0, 0⟩ : MoveD))) rfl ?_
 refine rf_s (cMove (⟨(⟨a1.unit, a1.param⟩ : KeyD), (⟨0, 0⟩ : ValueD), true, false, 0, 0⟩ : MoveD)) rfl ?_
 refine rf_s (cMove (⟨(⟨a1.unit, a1.param⟩ : KeyD), (⟨0, 0⟩ : ValueD), true, false, 0, 0⟩ : MoveD)) (sp_cMove _ _ rfl) ?_
 refine rf_s (AV.agg (cMove (⟨(⟨a1.unit, a1.param⟩ : KeyD), (⟨0, 0⟩ : ValueD), true, false, 0, 0⟩ : MoveD))) rfl ?_
 exact rf_fin _ (fin_same _ _) ⟨rfl, rfl⟩

noncomputable def t_slices_Equal_api_Point (a0 : (List PointD)) (a1 : (List PointD)) : Option Bool :=
 if ¬ ((a0.length : Int) = (a1.length : Int)) then
  some false
 else
 forE a0 (fun (i8 : Nat) e7 (s1 : Unit) => (show Option (Lr Unit Unit Unit) from
   (tIx a1 (i8 : Int)).bind fun x9 =>
   if ¬ (e7 = x9) then
    some (.ret ())
   else
   some (.go ()))) (fun s1 => some ()) () (fun b2 =>
  some true) (fun b2 =>
  some false)
theorem h_slices_Equal_api_Point {a0 : (List PointD)} { a1 : (List PointD)} {σ : Heap} {r : Bool} (h : t_slices_Equal_api_Point a0 a1 = some r) : m_slices_Equal_api_Point [(sl 2 cPoint a0), (sl 2 cPoint a1)] σ = some ((AV.bool r), σ) := by
 refine rf_wrap2 (f := r_slices_Equal_api_Point) (y0 := (sl 2 cPoint a0)) (y1 := (sl 2 cPoint a1)) (enc := fun r : Bool => (AV.bool r)) (T := t_slices_Equal_api_Point a0 a1) rfl rfl ?_ r h
 unfold r_slices_Equal_api_Point t_slices_Equal_api_Point
 refine rf_s (AV.int .i64 (a0.length : Int)) (lenS_sl _ _ _) ?_
 refine rf_s (AV.int .i64 (a1.length : Int)) (lenS_sl _ _ _) ?_
 refine rf_s (AV.bool (decide (¬ ((a0.length : Int) = (a1.length : Int))))) (aNe _ _ _) ?_
 refine rf_c (p := ¬ ((a0.length : Int) = (a1.length : Int))) (fun c11 => ?_) (fun c11 => ?_)
 ·exact rf_fin _ (fin_same _ _) ⟨rfl, rfl⟩
 refine rf_s (AV.int .i64 (a0.length : Int)) (lenS_sl _ _ _) ?_
 refine rf_for (B := Unit) (R := Unit) (fun (i8 : Nat) (s1 : Unit) v w3 => v = [(AV.bool false), (AV.int .i64 (i8 : Int))] ∧ σ = w3) (fun (b2 : Unit) (q : LS) => ∃ u4 u13, q = ((AX.exit 0), ([u4, u13] : List AV), σ)) (fun (b2 : Unit) (q : LS) => ∃ u13, q = (AX.ret, ([(AV.bool false), u13] : List AV), σ)) ?_ ?_ ⟨rfl, rfl⟩ ?_ ?_
 ·intro hle7 i8 e7 s1 v w3 he7 hI
  obtain ⟨rfl, rfl⟩ := hI
  refine rf_s (AV.bool true) (ix_lt he7) ?_
  refine rf_ct ?_
  refine rf_s (AV.rp (cPoint e7)) (ix_for he7) ?_
  refine rf_s (AV.agg (cPoint e7)) rfl ?_
  refine rf_o (fun x9 : PointD => (AV.rp (cPoint x9))) (fun x9 hx9 => ix_at hx9) (fun x9 hx9 => ?_)
  refine rf_s (AV.agg (cPoint x9)) rfl ?_
  refine rf_s (AV.bool (decide (¬ (e7 = x9)))) (ne_Point _ _) ?_
  refine rf_c (p := ¬ (e7 = x9)) (fun c10 => ?_) (fun c10 => ?_)
  ·exact rf_ret (rnd_ret (by simp) ⟨_, rfl⟩)
  refine rf_s (AV.int .i64 ((i8 + 1 : Nat) : Int)) (ix_inc he7 hle7) ?_
  exact rf_ret (rnd_go ⟨rfl, rfl⟩)
 ·intro hl s1 v w3 hI
  obtain ⟨rfl, rfl⟩ := hI
  refine rf_s (AV.bool false) (ix_end _) ?_
  refine rf_cf ?_
  exact rf_ret ⟨by simp, ⟨_, _, rfl⟩⟩
 ·intro hl b2 q hq
  obtain ⟨u4, u13, rfl⟩ := hq
  refine rf_bt rfl ?_
  exact rf_fin _ (fin_same _ _) ⟨rfl, rfl⟩
 ·intro hl b2 q hq
  obtain ⟨u13, rfl⟩ := hq
  refine rf_bf rfl ?_
  refine rf_bt rfl ?_
  exact rf_fin _ (fin_same _ _) ⟨rfl, rfl⟩

noncomputable def t_slices_Equal_api_Move (a0 : (List MoveD)) (a1 : (List MoveD)) : Option Bool :=
 if ¬ ((a0.length : Int) = (a1.length : Int)) then
  some false
 else
 forE a0 (fun (i8 : Nat) e7 (s1 : Unit) => (show Option (Lr Unit Unit Unit) from
   (tIx a1 (i8 : Int)).bind fun x9 =>
   if ¬ (e7 = x9) then
    some (.ret ())
   else
   some (.go ()))) (fun s1 => some ()) () (fun b2 =>
  some true) (fun b2 =>
  some false)
theorem h_slices_Equal_api_Move {a0 : (List MoveD)} { a1 : (List MoveD)} {σ : Heap} {r : Bool} (h : t_slices_Equal_api_Move a0 a1 = some r) : m_slices_Equal_api_Move [(sl 8 cMove a0), (sl 8 cMove a1)] σ = some ((AV.bool r), σ) := by
 refine rf_wrap2 (f := r_slices_Equal_api_Move) (y0 := (sl 8 cMove a0)) (y1 := (sl 8 cMove a1)) (enc := fun r : Bool => (AV.bool r)) (T := t_slices_Equal_api_Move a0 a1) rfl rfl ?_ r h
 unfold r_slices_Equal_api_Move t_slices_Equal_api_Move
 refine rf_s (AV.int .i64 (a0.length : Int)) (lenS_sl _ _ _) ?_
 refine rf_s (AV.int .i64 (a1.length : Int)) (lenS_sl _ _ _) ?_
 refine rf_s (AV.bool (decide (¬ ((a0.length : Int) = (a1.length : Int))))) (aNe _ _ _) ?_
 refine rf_c (p := ¬ ((a0.length : Int) = (a1.length : Int))) (fun c11 => ?_) (fun c11 => ?_)
 ·exact rf_fin _ (fin_same _ _) ⟨rfl, rfl⟩
 refine rf_s (AV.int .i64 (a0.length : Int)) (lenS_sl _ _ _) ?_
 refine rf_for (B := Unit) (R := Unit) (fun (i8 : Nat) (s1 : Unit) v w3 => v = [(AV.bool false), (AV.int .i64 (i8 : Int))] ∧ σ = w3) (fun (b2 : Unit) (q : LS) => ∃ u4 u13, q = ((AX.exit 0), ([u4, u13] : List AV), σ)) (fun (b2 : Unit) (q : LS) => ∃ u13, q = (AX.ret, ([(AV.bool false), u13] : List AV), σ)) ?_ ?_ ⟨rfl, rfl⟩ ?_ ?_
 ·intro hle7 i8 e7 s1 v w3 he7 hI
  obtain ⟨rfl, rfl⟩ := hI
  refine rf_s (AV.bool true) (ix_lt he7) ?_
  refine rf_ct ?_
  refine rf_s (AV.rp (cMove e7)) (ix_for he7) ?_
  refine rf_s (AV.agg (cMove e7)) rfl ?_
  refine rf_o (fun x9 : MoveD => (AV.rp (cMove x9))) (fun x9 hx9 => ix_at hx9) (fun x9 hx9 => ?_)
  refine rf_s (AV.agg (cMove x9)) rfl ?_
  refine rf_s (AV.bool (decide (¬ (e7 = x9)))) (ne_Move _ _) ?_
  refine rf_c (p := ¬ (e7 = x9)) (fun c10 => ?_) (fun c10 => ?_)
  ·exact rf_ret (rnd_ret (by simp) ⟨_, rfl⟩)
  refine rf_s (AV.int .i64 ((i8 + 1 : Nat) : Int)) (ix_inc he7 hle7) ?_
  exact rf_ret (rnd_go ⟨rfl, rfl⟩)
 ·intro hl s1 v w3 hI
  obtain ⟨rfl, rfl⟩ := hI
  refine rf_s (AV.bool false) (ix_end _) ?_
  refine rf_cf ?_
  exact rf_ret ⟨by simp, ⟨_, _, rfl⟩⟩
 ·intro hl b2 q hq
  obtain ⟨u4, u13, rfl⟩ := hq
  refine rf_bt rfl ?_
  exact rf_fin _ (fin_same _ _) ⟨rfl, rfl⟩
 ·intro hl b2 q hq
  obtain ⟨u13, rfl⟩ := hq
  refine rf_bf rfl ?_
  refine rf_bt rfl ?_
  exact rf_fin _ (fin_same _ _) ⟨rfl, rfl⟩

noncomputable def t_W5_sameCue (a0 : CueD) (a1 : CueD) : Option Bool :=
 (if (((((((((decide (a0.number = a1.number)) && (decide (a0.title = a1.title))) && (decide (a0.delay = a1.delay))) && (decide (a0.up = a1.up))) && (decide (a0.down = a1.down))) && (decide (a0.other = a1.other))) && (decide (a0.block = a1.block))) && (decide (a0.follow = a1.follow))) && (decide (a0.curve.kind = a1.curve.kind))) = true then t_slices_Equal_api_Point a0.curve.points a1.curve.points else some default).bind fun r1 =>
 (if ((((((((((decide (a0.number = a1.number)) && (decide (a0.title = a1.title))) && (decide (a0.delay = a1.delay))) && (decide (a0.up = a1.up))) && (decide (a0.down = a1.down))) && (decide (a0.other = a1.other))) && (decide (a0.block = a1.block))) && (decide (a0.follow = a1.follow))) && (decide (a0.curve.kind = a1.curve.kind))) && r1) = true then t_slices_Equal_api_Move a0.moves a1.moves else some default).bind fun r2 =>
 some (((((((((((decide (a0.number = a1.number)) && (decide (a0.title = a1.title))) && (decide (a0.delay = a1.delay))) && (decide (a0.up = a1.up))) && (decide (a0.down = a1.down))) && (decide (a0.other = a1.other))) && (decide (a0.block = a1.block))) && (decide (a0.follow = a1.follow))) && (decide (a0.curve.kind = a1.curve.kind))) && r1) && r2)
theorem h_W5_sameCue {a0 : CueD} { a1 : CueD} {σ : Heap} {r : Bool} (h : t_W5_sameCue a0 a1 = some r) : m_W5_sameCue [(AV.agg (cCue a0)), (AV.agg (cCue a1))] σ = some ((AV.bool r), σ) := by
 refine rf_wrap2 (f := r_W5_sameCue) (y0 := (AV.agg (cCue a0))) (y1 := (AV.agg (cCue a1))) (enc := fun r : Bool => (AV.bool r)) (T := t_W5_sameCue a0 a1) (nn_t1 (nn_a rfl) (nn_t1 (nn_a rfl) rfl)) rfl ?_ r h
 unfold r_W5_sameCue t_W5_sameCue
 refine rf_s (cCue a0) rfl ?_
 refine rf_s (cCue a1) rfl ?_
 refine rf_s (AV.int .i64 a0.number) rfl ?_
 refine rf_s (AV.int .i64 a1.number) rfl ?_
 refine rf_s (AV.bool (decide (a0.number = a1.number))) (aEq _ _ _) ?_
 refine rf_gt (AV.str a0.title) (fun hg => rfl) ?_
 refine rf_gt (AV.str a1.title) (fun hg => rfl) ?_
 refine rf_gt (AV.bool (decide (a0.title = a1.title))) (fun hg => by
   simp only [hg, Bool.true_and, cond_true]; first | done | exact (aEqZ _ _)) ?_
 refine rf_s (AV.bool ((decide (a0.number = a1.number)) && (decide (a0.title = a1.title)))) (pk_and _ _) ?_
 refine rf_gt (AV.int .i64 a0.delay) (fun hg => rfl) ?_
 refine rf_gt (AV.int .i64 a1.delay) (fun hg => rfl) ?_
 refine rf_gt (AV.bool (decide (a0.delay = a1.delay))) (fun hg => by
   simp only [hg, Bool.true_and, cond_true]; first | done | exact (aEq _ _ _)) ?_
 refine rf_s (AV.bool (((decide (a0.number = a1.number)) && (decide (a0.title = a1.title))) && (decide (a0.delay = a1.delay)))) (pk_and _ _) ?_
 refine rf_gt (AV.int .i64 a0.up) (fun hg => rfl) ?_
 refine rf_gt (AV.int .i64 a1.up) (fun hg => rfl) ?_
 refine rf_gt (AV.bool (decide (a0.up = a1.up))) (fun hg => by
   simp only [hg, Bool.true_and, cond_true]; first | done | exact (aEq _ _ _)) ?_
 refine rf_s (AV.bool ((((decide (a0.number = a1.number)) && (decide (a0.title = a1.title))) && (decide (a0.delay = a1.delay))) && (decide (a0.up = a1.up)))) (pk_and _ _) ?_
 refine rf_gt (AV.int .i64 a0.down) (fun hg => rfl) ?_
 refine rf_gt (AV.int .i64 a1.down) (fun hg => rfl) ?_
 refine rf_gt (AV.bool (decide (a0.down = a1.down))) (fun hg => by
   simp only [hg, Bool.true_and, cond_true]; first | done | exact (aEq _ _ _)) ?_
 refine rf_s (AV.bool (((((decide (a0.number = a1.number)) && (decide (a0.title = a1.title))) && (decide (a0.delay = a1.delay))) && (decide (a0.up = a1.up))) && (decide (a0.down = a1.down)))) (pk_and _ _) ?_
 refine rf_gt (AV.int .i64 a0.other) (fun hg => rfl) ?_
 refine rf_gt (AV.int .i64 a1.other) (fun hg => rfl) ?_
 refine rf_gt (AV.bool (decide (a0.other = a1.other))) (fun hg => by
   simp only [hg, Bool.true_and, cond_true]; first | done | exact (aEq _ _ _)) ?_
 refine rf_s (AV.bool ((((((decide (a0.number = a1.number)) && (decide (a0.title = a1.title))) && (decide (a0.delay = a1.delay))) && (decide (a0.up = a1.up))) && (decide (a0.down = a1.down))) && (decide (a0.other = a1.other)))) (pk_and _ _) ?_
 refine rf_gt (AV.bool a0.block) (fun hg => rfl) ?_
 refine rf_gt (AV.bool a1.block) (fun hg => rfl) ?_
 refine rf_gt (AV.bool (decide (a0.block = a1.block))) (fun hg => by
   simp only [hg, Bool.true_and, cond_true]; first | done | exact (aEqB _ _)) ?_
 refine rf_s (AV.bool (((((((decide (a0.number = a1.number)) && (decide (a0.title = a1.title))) && (decide (a0.delay = a1.delay))) && (decide (a0.up = a1.up))) && (decide (a0.down = a1.down))) && (decide (a0.other = a1.other))) && (decide (a0.block = a1.block)))) (pk_and _ _) ?_
 refine rf_gt (AV.int .i64 a0.follow) (fun hg => rfl) ?_
 refine rf_gt (AV.int .i64 a1.follow) (fun hg => rfl) ?_
 refine rf_gt (AV.bool (decide (a0.follow = a1.follow))) (fun hg => by
   simp only [hg, Bool.true_and, cond_true]; first | done | exact (aEq _ _ _)) ?_
 refine rf_s (AV.bool ((((((((decide (a0.number = a1.number)) && (decide (a0.title = a1.title))) && (decide (a0.delay = a1.delay))) && (decide (a0.up = a1.up))) && (decide (a0.down = a1.down))) && (decide (a0.other = a1.other))) && (decide (a0.block = a1.block))) && (decide (a0.follow = a1.follow)))) (pk_and _ _) ?_
 refine rf_gt (AV.int .i64 a0.curve.kind) (fun hg => rfl) ?_
 refine rf_gt (AV.int .i64 a1.curve.kind) (fun hg => rfl) ?_
 refine rf_gt (AV.bool (decide (a0.curve.kind = a1.curve.kind))) (fun hg => by
   simp only [hg, Bool.true_and, cond_true]; first | done | exact (aEq _ _ _)) ?_
 refine rf_s (AV.bool (((((((((decide (a0.number = a1.number)) && (decide (a0.title = a1.title))) && (decide (a0.delay = a1.delay))) && (decide (a0.up = a1.up))) && (decide (a0.down = a1.down))) && (decide (a0.other = a1.other))) && (decide (a0.block = a1.block))) && (decide (a0.follow = a1.follow))) && (decide (a0.curve.kind = a1.curve.kind)))) (pk_and _ _) ?_
 refine rf_gt (sl 2 cPoint a0.curve.points) (fun hg => rfl) ?_
 refine rf_gt (sl 2 cPoint a1.curve.points) (fun hg => rfl) ?_
 refine rf_gto (ω := Bool) (fun r1 => (AV.bool r1)) (fun hg r1 hr1 => by
   simp only [hg, Bool.true_and, cond_true]; first | done | exact (quiet_of (h_slices_Equal_api_Point hr1))) (fun r1 hr1 => ?_)
 refine rf_s (AV.bool ((((((((((decide (a0.number = a1.number)) && (decide (a0.title = a1.title))) && (decide (a0.delay = a1.delay))) && (decide (a0.up = a1.up))) && (decide (a0.down = a1.down))) && (decide (a0.other = a1.other))) && (decide (a0.block = a1.block))) && (decide (a0.follow = a1.follow))) && (decide (a0.curve.kind = a1.curve.kind))) && r1)) (pk_and _ _) ?_
 refine rf_gt (sl 8 cMove a0.moves) (fun hg => rfl) ?_
 refine rf_gt (sl 8 cMove a1.moves) (fun hg => rfl) ?_
 refine rf_gto (ω := Bool) (fun r2 => (AV.bool r2)) (fun hg r2 hr2 => by
   simp only [hg, Bool.true_and, cond_true]; first | done | exact (quiet_of (h_slices_Equal_api_Move hr2))) (fun r2 hr2 => ?_)
 refine rf_s (AV.bool (((((((((((decide (a0.number = a1.number)) && (decide (a0.title = a1.title))) && (decide (a0.delay = a1.delay))) && (decide (a0.up = a1.up))) && (decide (a0.down = a1.down))) && (decide (a0.other = a1.other))) && (decide (a0.block = a1.block))) && (decide (a0.follow = a1.follow))) && (decide (a0.curve.kind = a1.curve.kind))) && r1) && r2)) (pk_and _ _) ?_
 exact rf_fin _ (fin_same _ _) ⟨rfl, rfl⟩

end Go.Proofs.YtphgchakmkankaaGreat

namespace Go.Proofs.YtphgchakmkankaaGreat
set_option linter.unusedSectionVars false
set_option linter.unusedVariables false
set_option linter.unusedSimpArgs false
theorem half_nn {i j : Nat} (h : i + j < 9223372036854775808) : A.shr (.int .u64 ((i + j : Nat) : Int)) (.int .u64 1) = some (.int .u64 (((i + j) / 2 : Nat) : Int)) := by
 simp only [A.shr]
 rw [if_neg (by decide)]
 congr 2
 rw [show (2 : Int) ^ (min (Int.toNat 1) IntKind.u64.bits) = 2 from rfl, Int.fdiv_eq_ediv_of_nonneg _ (by decide)]
 omega
theorem conv_u {n : Nat} (h : n < 9223372036854775808) : A.conv .u64 (.int .i64 (n : Int)) = some (.int .u64 (n : Int)) := by
 simp only [A.conv]
 congr 2
 unfold IntKind.wrap
 simp [IntKind.bits, IntKind.signed]
 omega
theorem conv_i {n : Nat} (h : n < 9223372036854775808) : A.conv .i64 (.int .u64 (n : Int)) = some (.int .i64 (n : Int)) := by
 simp only [A.conv]
 rw [wrap64 (by unfold inI; omega)]
theorem tadd {a b : Nat} (h : a + b < 9223372036854775808) : A.add (.int .i64 (a : Int)) (.int .i64 (b : Int)) = some (.int .i64 ((a + b : Nat) : Int)) := by
 rw [aAdd, wrap64 (by unfold inI; omega)]; simp
theorem tadd1 {a : Nat} (h : a + 1 < 9223372036854775808) : A.add (.int .i64 (a : Int)) (.int .i64 1) = some (.int .i64 ((a + 1 : Nat) : Int)) := tadd (b := 1) h
theorem tlss (a b : Nat) : A.lss (.int .i64 (a : Int)) (.int .i64 (b : Int)) = some (.bool (decide (a < b))) := by
 rw [aLss]
 have : ((a : Int) < (b : Int)) = (a < b) := propext ⟨fun h => by omega, fun h => by omega⟩
 simp only [this]
theorem tlss0 (a : Int) : A.lss (.int .i64 a) (.int .i64 0) = some (.bool (decide (a < 0))) := by rw [aLss]
theorem exb {α : Type} {X Y : α} : (bif (AX.exit 0 == AX.exit 0) then X else Y) = X := rfl
theorem bs_loop {f : List AV → Heap → Option (AX × List AV × Heap)} {σ : Heap} (pv : Nat → Nat → List AV) {v0 : List AV} {n p : Nat} (hp : p ≤ n) (h0 : v0 = pv 0 n)
  (hs : ∀ i j, i < j → j ≤ n → f (pv i j) σ = some (.normal, if (i + j) / 2 < p then pv ((i + j) / 2 + 1) j else pv i ((i + j) / 2), σ))
  (he : ∀ i, i ≤ n → f (pv i i) σ = some (.exit 0, pv i i, σ)) : A.loop f v0 σ = some (.exit 0, pv p p, σ) := by
 subst h0
 have key : ∀ k i j, j - i ≤ k → i ≤ p → p ≤ j → j ≤ n → ∃ m, A.iter f m (pv i j) σ = some (.exit 0, pv p p, σ) := by
  intro k
  induction k with
  | zero =>
   intro i j hk h1 h2 h3
   have : i = p := by omega
   have : j = p := by omega
   subst i; subst j
   exact loop_done (he p h3) (by simp)
  | succ k ih =>
   intro i j hk h1 h2 h3
   by_cases hij : i < j
   ·have hstep := hs i j hij h3
    by_cases hh : (i + j) / 2 < p
    ·rw [if_pos hh] at hstep
     exact loop_step hstep (ih _ _ (by omega) (by omega) h2 h3)
    ·rw [if_neg hh] at hstep
     exact loop_step hstep (ih _ _ (by omega) h1 (by omega) (by omega))
   ·have : i = p := by omega
    have : j = p := by omega
    subst i; subst j
    exact loop_done (he p h3) (by simp)
 obtain ⟨m, hm⟩ := key n 0 n (by omega) (by omega) hp (Nat.le_refl _)
 exact loop_of_iter hm
theorem bsM {dyn : Nat → List AV → Heap → Option (AV × Heap)} {l : List MoveD} {fn : Nat} {k : KeyD} {cv : MoveD → Int} {p : Nat} {σ : Heap} (hl : l.length < 4611686018427387904) (hp : p ≤ l.length)
  (hd : ∀ x ∈ l, dyn fn [.agg (cMove x), .agg (cKey k)] σ = some (.int .i64 (cv x), σ)) (hc : ∀ h x, l[h]? = some x → (cv x < 0 ↔ h < p)) :
  m_slices_BinarySearchFunc_api_Move_api_Key dyn [sl 8 cMove l, .agg (cKey k), .fn fn []] σ = some (.tup [.int .i64 (p : Int), .bool ((l[p]?).any fun x => decide (cv x = 0))], σ) := by
 refine wrap_eq rfl ?_ rfl
 show r_slices_BinarySearchFunc_api_Move_api_Key dyn (sl 8 cMove l) (.agg (cKey k)) (.fn fn []) σ = _
 unfold r_slices_BinarySearchFunc_api_Move_api_Key
 rw [show A.cells 2 (.agg (cKey k)) = some (cKey k) from rfl, Option.bind_some, lenS_sl, Option.bind_some]
 rw [bs_loop (v0 := [.lbx (cKey k), .int .i64 0, .int .i64 (l.length : Int)]) (fun i j => [.lbx (cKey k), .int .i64 (i : Int), .int .i64 (j : Int)]) hp rfl ?_ ?_, Option.bind_some]
 ·simp only [exb, List.getD_cons_succ, List.getD_cons_zero]
  rw [tlss, Option.bind_some]
  by_cases hpl : p < l.length
  ·have hx : l[p]? = some l[p] := List.getElem?_eq_getElem hpl
   have hdx := hd _ (List.mem_of_getElem? hx)
   have hia := iaddr_sl 8 cMove l hx
   have hq := quiet_of (by show A.callv dyn (.fn fn []) [.agg (cMove l[p]), .agg (cKey k)] σ = _; simp only [A.callv, List.append_nil]; exact hdx)
   simp only [decide_eq_true hpl, A.guard, beq_self_eq_true, cond_true, Option.bind_some, List.getD_cons_succ, List.getD_cons_zero, hia, A.deref, pA_cMove, A.lb, A.part1, A.partA, A.pick, hx, Option.any_some]
   show ((A.quiet (A.callv dyn (.fn fn []) [.agg (cMove l[p]), .agg (cKey k)] σ) σ).bind _) = _
   rw [hq, Option.bind_some, aEq]
   exact fin_same _ _
  ·have hx : l[p]? = none := List.getElem?_eq_none (by omega)
   simp only [decide_eq_false hpl, A.guard, Option.bind_some, A.pick, hx, Option.any_none]
   exact fin_same _ _
 ·intro i j hij hj
  have hlt : (i + j) / 2 < l.length := by omega
  have hx : l[(i + j) / 2]? = some l[(i + j) / 2] := List.getElem?_eq_getElem hlt
  have hdx := hd _ (List.mem_of_getElem? hx)
  have hia := iaddr_sl 8 cMove l hx
  have hq := quiet_of (by show A.callv dyn (.fn fn []) [.agg (cMove l[(i + j) / 2]), .agg (cKey k)] σ = _; simp only [A.callv, List.append_nil]; exact hdx)
  simp only [List.getD_cons_succ, List.getD_cons_zero]
  rw [tlss, Option.bind_some, decide_eq_true hij]
  simp only [A.cond, cond_true]
  rw [tadd (by omega), Option.bind_some, conv_u (by omega), Option.bind_some, half_nn (by omega), Option.bind_some, conv_i (by omega), Option.bind_some, hia, Option.bind_some]
  simp only [A.deref, Option.bind_some, pA_cMove, A.lb]
  show ((A.quiet (A.callv dyn (.fn fn []) [.agg (cMove l[(i + j) / 2]), .agg (cKey k)] σ) σ).bind _) = _
  rw [hq, Option.bind_some, tlss0, Option.bind_some]
  by_cases hh : (i + j) / 2 < p
  ·have := (hc _ _ hx).2 hh
   rw [decide_eq_true this, if_pos hh]
   simp only [cond_true, tadd1 (show (i + j) / 2 + 1 < 9223372036854775808 by omega), Option.bind_some]
   rfl
  ·have : ¬ (cv l[(i + j) / 2] < 0) := fun e => hh ((hc _ _ hx).1 e)
   rw [decide_eq_false this, if_neg hh]
   rfl
 ·intro i hi
  simp only [List.getD_cons_succ, List.getD_cons_zero]
  rw [tlss, Option.bind_some, decide_eq_false (Nat.lt_irrefl i)]
  rfl
theorem bsC {dyn : Nat → List AV → Heap → Option (AV × Heap)} {l : List CueD} {fn : Nat} {k : Int} {cv : CueD → Int} {p : Nat} {σ : Heap} (hl : l.length < 4611686018427387904) (hp : p ≤ l.length)
  (hd : ∀ x ∈ l, dyn fn [.agg (cCue x), .int .i64 k] σ = some (.int .i64 (cv x), σ)) (hc : ∀ h x, l[h]? = some x → (cv x < 0 ↔ h < p)) :
  m_slices_BinarySearchFunc_api_Cue_int dyn [sl 11 cCue l, .int .i64 k, .fn fn []] σ = some (.tup [.int .i64 (p : Int), .bool ((l[p]?).any fun x => decide (cv x = 0))], σ) := by
 refine wrap_eq rfl ?_ rfl
 show r_slices_BinarySearchFunc_api_Cue_int dyn (sl 11 cCue l) (.int .i64 k) (.fn fn []) σ = _
 unfold r_slices_BinarySearchFunc_api_Cue_int
 rw [lenS_sl, Option.bind_some]
 rw [bs_loop (v0 := [.int .i64 0, .int .i64 (l.length : Int)]) (fun i j => [.int .i64 (i : Int), .int .i64 (j : Int)]) hp rfl ?_ ?_, Option.bind_some]
 ·simp only [exb, List.getD_cons_succ, List.getD_cons_zero]
  rw [tlss, Option.bind_some]
  by_cases hpl : p < l.length
  ·have hx : l[p]? = some l[p] := List.getElem?_eq_getElem hpl
   have hdx := hd _ (List.mem_of_getElem? hx)
   have hia := iaddr_sl 11 cCue l hx
   have hq := quiet_of (by show A.callv dyn (.fn fn []) [.agg (cCue l[p]), .int .i64 k] σ = _; simp only [A.callv, List.append_nil]; exact hdx)
   simp only [decide_eq_true hpl, A.guard, beq_self_eq_true, cond_true, Option.bind_some, List.getD_cons_succ, List.getD_cons_zero, hia, A.deref, pA_cCue, A.lb, A.part1, A.partA, A.pick, hx, Option.any_some]
   show ((A.quiet (A.callv dyn (.fn fn []) [.agg (cCue l[p]), .int .i64 k] σ) σ).bind _) = _
   rw [hq, Option.bind_some, aEq]
   exact fin_same _ _
  ·have hx : l[p]? = none := List.getElem?_eq_none (by omega)
   simp only [decide_eq_false hpl, A.guard, Option.bind_some, A.pick, hx, Option.any_none]
   exact fin_same _ _
 ·intro i j hij hj
  have hlt : (i + j) / 2 < l.length := by omega
  have hx : l[(i + j) / 2]? = some l[(i + j) / 2] := List.getElem?_eq_getElem hlt
  have hdx := hd _ (List.mem_of_getElem? hx)
  have hia := iaddr_sl 11 cCue l hx
  have hq : A.callv dyn (.fn fn []) [.agg (cCue l[(i + j) / 2]), .int .i64 k] σ = some (.int .i64 (cv l[(i + j) / 2]), σ) := by simp only [A.callv, List.append_nil]; exact hdx
  simp only [List.getD_cons_succ, List.getD_cons_zero]
  rw [tlss, Option.bind_some, decide_eq_true hij]
  simp only [A.cond, cond_true]
  rw [tadd (by omega), Option.bind_some, conv_u (by omega), Option.bind_some, half_nn (by omega), Option.bind_some, conv_i (by omega), Option.bind_some, hia, Option.bind_some]
  simp only [A.deref, Option.bind_some, pA_cCue, A.lb]
  rw [hq, Option.bind_some, tlss0, Option.bind_some]
  by_cases hh : (i + j) / 2 < p
  ·have := (hc _ _ hx).2 hh
   rw [decide_eq_true this, if_pos hh]
   simp only [cond_true, tadd1 (show (i + j) / 2 + 1 < 9223372036854775808 by omega), Option.bind_some]
   rfl
  ·have : ¬ (cv l[(i + j) / 2] < 0) := fun e => hh ((hc _ _ hx).1 e)
   rw [decide_eq_false this, if_neg hh]
   rfl
 ·intro i hi
  simp only [List.getD_cons_succ, List.getD_cons_zero]
  rw [tlss, Option.bind_some, decide_eq_false (Nat.lt_irrefl i)]
  rfl
end Go.Proofs.YtphgchakmkankaaGreat

namespace Go.Proofs.YtphgchakmkankaaGreat
set_option linter.unusedSectionVars false
set_option linter.unusedVariables false
set_option linter.unusedSimpArgs false
section
variable {α γ R S B : Type}
theorem forE_idx {p : α → Bool} {l : List α} {body : Nat → α → Unit → Option (Lr Unit Unit Int)} {fin : Unit → Option Unit} {s : Unit} {K1 : Unit → Option γ} {K2 : Int → Option γ} (hl : l.length ≤ mxl) (hb : ∀ i x, l[i]? = some x → body i x () = some (if p x = true then .ret (i : Int) else .go ())) (hf : fin () = some () := by rfl) : forE l body fin s K1 K2 = if idxI p l = -1 then K1 () else K2 (idxI p l) := by
 rw [forE_le hl]
 have key : ∀ (rest pre : List α), l = pre ++ rest → (∀ x ∈ pre, p x = false) → forL body fin rest pre.length () = some (if idxI p l = -1 then .inl () else .inr (idxI p l)) := by
  intro rest
  induction rest with
  | nil =>
   intro pre hp hn
   rw [List.append_nil] at hp
   rcases idxI_cases p l with ⟨h1, _⟩ | ⟨k, x, h1, h2, _⟩
   ·simp [forL, hf, h1]
   ·have := hn x (by rw [← hp]; exact List.mem_of_getElem? h1); rw [h2] at this; cases this
  | cons x rest ih =>
   intro pre hp hn
   have hx : l[pre.length]? = some x := by rw [hp]; simp
   rw [forL, hb pre.length x hx, Option.bind_some]
   cases h : p x
   ·simp only [Bool.false_eq_true, if_false]
    have := ih (pre ++ [x]) (by simpa using hp) (fun y hy => by
     rcases List.mem_append.1 hy with hy | hy
     ·exact hn y hy
     ·simp at hy; subst hy; exact h)
    simpa using this
   ·simp only [if_true]
    have e : idxI p l = pre.length := by
     rcases idxI_cases p l with ⟨h1, h2, _⟩ | ⟨k, y, h1, h2, h3, _, h5⟩
     ·have := h2 x (List.mem_of_getElem? hx); rw [h] at this; cases this
     ·rw [h3]
      rcases Nat.lt_trichotomy k pre.length with hk | hk | hk
      ·rw [hp, List.getElem?_append_left hk] at h1
       have := hn y (List.mem_of_getElem? h1); rw [h2] at this; cases this
      ·omega
      ·have := h5 pre.length x hk hx; rw [h] at this; cases this
    rw [if_neg (by omega), e]
 have k := key l [] rfl (by simp)
 rw [List.length_nil] at k
 rw [show s = () from rfl, k, Option.bind_some]
 split <;> rfl
end
theorem At_t (l : List CueD) (hl : l.length ≤ mxl) (n : Int) : t_R5_At l n = some (idxI (fun c => decide (c.number = n)) l) := by
 unfold t_R5_At
 rw [forE_idx (p := fun c => decide (c.number = n)) hl (by intro i x _; simp only [decide_eq_true_eq, ite_pure])]
 split
 ·rename_i h; rw [h]
 ·rfl
end Go.Proofs.YtphgchakmkankaaGreat

namespace Go.Proofs.YtphgchakmkankaaGreat
set_option linter.unusedSectionVars false
set_option linter.unusedVariables false
set_option linter.unusedSimpArgs false
def srtM (l : List MoveD) : Prop := l.Pairwise fun a b => ltK a.key b.key = true
def posM (l : List MoveD) (k : KeyD) : Nat := (l.takeWhile fun m => ltK m.key k).length
def hasM (l : List MoveD) (k : KeyD) : Bool := l.any fun m => decide (m.key = k)
theorem posM_le (l : List MoveD) (k : KeyD) : posM l k ≤ l.length := (List.takeWhile_prefix _).length_le
theorem posM_lt {l : List MoveD} {k : KeyD} (h : srtM l) : ∀ {i : Nat} {x : MoveD}, l[i]? = some x → (ltK x.key k = true ↔ i < posM l k) := by
 induction l with
 | nil => intro i x hx; simp at hx
 | cons a l ih =>
  intro i x hx
  have hs := List.pairwise_cons.1 h
  unfold posM
  rw [List.takeWhile_cons]
  cases ha : ltK a.key k
  ·simp only [Bool.false_eq_true, if_false, List.length_nil, Nat.not_lt_zero, iff_false, Bool.not_eq_true]
   cases i with
   | zero => simp at hx; subst hx; exact ha
   | succ i =>
    simp only [List.getElem?_cons_succ] at hx
    have := hs.1 x (List.mem_of_getElem? hx)
    cases hq : ltK x.key k
    ·rfl
    ·rw [ltK_trans this hq] at ha; cases ha
  ·simp only [if_true, List.length_cons]
   cases i with
   | zero => simp at hx; subst hx; simp [ha]
   | succ i =>
    simp only [List.getElem?_cons_succ] at hx
    rw [ih hs.2 hx]
    unfold posM
    omega
theorem posM_has {l : List MoveD} {k : KeyD} (h : srtM l) : ((l[posM l k]?).any fun x => decide (x.key = k)) = hasM l k := by
 rw [Bool.eq_iff_iff]
 constructor
 ·intro e
  cases hx : l[posM l k]? with
  | none => rw [hx] at e; cases e
  | some x =>
   rw [hx] at e
   exact List.any_eq_true.2 ⟨x, List.mem_of_getElem? hx, e⟩
 ·intro e
  obtain ⟨x, hm, hk⟩ := List.any_eq_true.1 e
  have hk := of_decide_eq_true hk
  obtain ⟨i, hi⟩ := List.mem_iff_getElem?.1 hm
  have h1 : ¬ i < posM l k := fun q => by
   have := (posM_lt h hi).2 q
   rw [hk, ltK_irr] at this; cases this
  have h2 : ¬ posM l k < i := fun q => by
   have hp : posM l k < l.length := Nat.lt_trans q (List.getElem?_eq_some_iff.1 hi).1
   have hy : l[posM l k]? = some l[posM l k] := List.getElem?_eq_getElem hp
   have h3 : ¬ ltK l[posM l k].key k = true := fun q' => Nat.lt_irrefl _ ((posM_lt h hy).1 q')
   have h4 := List.pairwise_iff_getElem.1 h (posM l k) i hp (List.getElem?_eq_some_iff.1 hi).1 q
   rw [(List.getElem?_eq_some_iff.1 hi).2, hk] at h4
   exact h3 h4
  have : posM l k = i := by omega
  rw [this, hi]; simp [hk]
theorem moveAt_t {c : CueD} (hs : srtM c.moves) (hl : c.moves.length < 4611686018427387904) (k : KeyD) (σ : Heap) : m_cue_moveAt [.agg (cCue c), .agg (cKey k)] σ = some (.tup [.int .i64 (posM c.moves k : Int), .bool (hasM c.moves k)], σ) := by
 refine wrap_eq rfl ?_ rfl
 show r_cue_moveAt (.agg (cCue c)) (.agg (cKey k)) σ = _
 unfold r_cue_moveAt
 rw [ce_cCue, Option.bind_some, show A.cells 2 (.agg (cKey k)) = some (cKey k) from rfl, Option.bind_some, show A.part1 10 (cCue c) = some (sl 8 cMove c.moves) from rfl, Option.bind_some, show A.partA 0 2 (cKey k) = some (.agg (cKey k)) from rfl, Option.bind_some]
 rw [bsM (cv := fun x => cmpK x.key k) (p := posM c.moves k) hl (posM_le _ _) ?_ ?_, Option.bind_some]
 ·have e : ((c.moves[posM c.moves k]?).any fun x => decide (cmpK x.key k = 0)) = hasM c.moves k := by
   rw [← posM_has hs]
   congr 1
   funext x
   rw [decide_eq_decide, cmpK_eq]
  rw [e]
  exact fin_same _ _
 ·intro x hx
  exact h_cue_moveAt_fn1 (r := cmpK x.key k) (by unfold t_cue_moveAt_fn1; rw [compare_eq]; rfl)
 ·intro i x hx
  rw [cmpK_lt, posM_lt hs hx]
structure Good (l : List CueD) : Prop where
 len : l.length ≤ 300
 num : ∀ c ∈ l, 1 ≤ c.number ∧ c.number ≤ 9999999
 srt : l.Pairwise fun a b => a.number < b.number
 mv : ∀ c ∈ l, c.moves.length ≤ 2000 ∧ srtM c.moves
 pts : ∀ c ∈ l, c.curve.points.length ≤ 20
theorem srt_of_step {α : Type} [Inhabited α] {r : α → α → Prop} (tr : ∀ a b c, r a b → r b c → r a c) : ∀ (l : List α), (∀ i x, l[i + 1]? = some x → r (l[i]?.getD default) x) → l.Pairwise r
 | [], _ => List.Pairwise.nil
 | [a], _ => by simp
 | a :: b :: l, h => by
  have ih := srt_of_step tr (b :: l) (fun i x hx => h (i + 1) x hx)
  have hab : r a b := h 0 b rfl
  refine List.pairwise_cons.2 ⟨fun x hx => ?_, ih⟩
  rcases List.mem_cons.1 hx with rfl | hx
  ·exact hab
  ·exact tr _ _ _ hab ((List.pairwise_cons.1 ih).1 x hx)
end Go.Proofs.YtphgchakmkankaaGreat

namespace Go.Proofs.YtphgchakmkankaaGreat
set_option linter.unusedSectionVars false
set_option linter.unusedVariables false
set_option linter.unusedSimpArgs false
theorem pv_succ {α : Type} [Inhabited α] (l : List α) (i : Nat) : pv l (i + 1) = l[i]?.getD default := by
 simp [pv, List.getD_eq_getElem?_getD]
theorem good_moves {l : List MoveD} (h : movesF l = 0) : srtM l := by
 unfold movesF at h
 refine srt_of_step (r := fun a b : MoveD => ltK a.key b.key = true) (fun a b c => ltK_trans) l fun i x hx => ?_
 have := (chkE_zero l 0).1 h (i + 1) x hx
 rw [Nat.zero_add] at this
 unfold moveF at this
 rw [← pv_succ]
 by_cases hq : ltK (pv l (i + 1)).key x.key = true
 ·exact hq
 ·exfalso
  have e : (decide (0 < ((i + 1 : Nat) : Int)) && !ltK (pv l (i + 1)).key x.key) = true := by
   rw [Bool.and_eq_true]; exact ⟨decide_eq_true (by omega), by simpa using hq⟩
  rw [e] at this
  repeat (first | (split at this; · cases this) | (simp at this; done) | (rename_i q; exact q rfl))
theorem good_of {l : List CueD} (h : formF l = 0) : Good l := by
 unfold formF at h
 by_cases h1 : 300 < (l.length : Int)
 ·simp [h1] at h
 rw [if_neg h1] at h
 by_cases h2 : chkE (cueF l) l 0 = 0
 case neg => rw [if_pos h2] at h; exact absurd h h2
 have hc : ∀ i x, l[i]? = some x → (1 ≤ x.number ∧ x.number ≤ 9999999) ∧ (0 < i → (pv l i).number < x.number) ∧ x.moves.length ≤ 2000 ∧ movesF x.moves = 0 ∧ x.curve.points.length ≤ 20 := by
  intro i x hx
  have := (chkE_zero l 0).1 h2 i x hx
  rw [Nat.zero_add] at this
  unfold cueF at this
  split at this
  ·cases this
  rename_i a1
  split at this
  ·cases this
  rename_i a2
  split at this
  ·cases this
  split at this
  ·cases this
  split at this
  ·rename_i a5; exact absurd this a5
  rename_i a5
  split at this
  ·cases this
  rename_i a6
  have hpt : x.curve.points.length ≤ 20 := by
   have a5 : curveF x.curve = 0 := by simpa using a5
   unfold curveF at a5
   split at a5
   ·cases a5
   split at a5
   ·split at a5
    ·cases a5
    split at a5
    ·cases a5
    omega
   ·split at a5
    ·cases a5
    omega
  refine ⟨by simpa [withinB] using a1, fun hi => ?_, by omega, this, hpt⟩
  have hi' : decide (0 < (i : Int)) = true := decide_eq_true (by omega)
  rw [hi', Bool.true_and, decide_eq_true_eq] at a2
  omega
 refine ⟨by omega, fun c hc' => ?_, ?_, fun c hc' => ?_, fun c hc' => ?_⟩
 ·obtain ⟨i, hi⟩ := List.mem_iff_getElem?.1 hc'
  exact (hc i c hi).1
 ·refine srt_of_step (r := fun a b : CueD => a.number < b.number) (fun a b c => Int.lt_trans) l fun i x hx => ?_
  rw [← pv_succ]
  exact (hc (i + 1) x hx).2.1 (by omega)
 ·obtain ⟨i, hi⟩ := List.mem_iff_getElem?.1 hc'
  exact ⟨(hc i c hi).2.2.1, good_moves (hc i c hi).2.2.2.1⟩
 ·obtain ⟨i, hi⟩ := List.mem_iff_getElem?.1 hc'
  exact (hc i c hi).2.2.2.2
def posC (l : List CueD) (n : Int) : Nat := (l.takeWhile fun c => decide (c.number < n)).length
def hasC (l : List CueD) (n : Int) : Bool := l.any fun c => decide (c.number = n)
theorem posC_le (l : List CueD) (n : Int) : posC l n ≤ l.length := (List.takeWhile_prefix _).length_le
theorem posC_lt {l : List CueD} {n : Int} (h : l.Pairwise fun a b => a.number < b.number) : ∀ {i : Nat} {x : CueD}, l[i]? = some x → (x.number < n ↔ i < posC l n) := by
 induction l with
 | nil => intro i x hx; simp at hx
 | cons a l ih =>
  intro i x hx
  have hs := List.pairwise_cons.1 h
  unfold posC
  rw [List.takeWhile_cons]
  by_cases ha : a.number < n
  ·rw [decide_eq_true ha]
   simp only [if_true, List.length_cons]
   cases i with
   | zero => simp at hx; subst hx; simp [ha]
   | succ i =>
    simp only [List.getElem?_cons_succ] at hx
    rw [ih hs.2 hx]
    unfold posC
    omega
  ·rw [decide_eq_false ha]
   simp only [Bool.false_eq_true, if_false, List.length_nil, Nat.not_lt_zero, iff_false]
   cases i with
   | zero => simp at hx; subst hx; exact ha
   | succ i =>
    simp only [List.getElem?_cons_succ] at hx
    have := hs.1 x (List.mem_of_getElem? hx)
    omega
theorem posC_at {l : List CueD} {n : Int} (h : l.Pairwise fun a b => a.number < b.number) {i : Nat} {x : CueD} (hx : l[i]? = some x) (hn : x.number = n) : posC l n = i := by
 have h1 : ¬ i < posC l n := fun q => by have := (posC_lt h hx).2 q; omega
 have h2 : ¬ posC l n < i := fun q => by
  have hp : posC l n < l.length := Nat.lt_trans q (List.getElem?_eq_some_iff.1 hx).1
  have hy : l[posC l n]? = some l[posC l n] := List.getElem?_eq_getElem hp
  have h3 : ¬ l[posC l n].number < n := fun q' => Nat.lt_irrefl _ ((posC_lt h hy).1 q')
  have h4 := List.pairwise_iff_getElem.1 h (posC l n) i hp (List.getElem?_eq_some_iff.1 hx).1 q
  rw [(List.getElem?_eq_some_iff.1 hx).2, hn] at h4
  exact h3 h4
 omega
theorem posC_has {l : List CueD} {n : Int} (h : l.Pairwise fun a b => a.number < b.number) : ((l[posC l n]?).any fun x => decide (x.number = n)) = hasC l n := by
 rw [Bool.eq_iff_iff]
 constructor
 ·intro e
  cases hx : l[posC l n]? with
  | none => rw [hx] at e; cases e
  | some x => rw [hx] at e; exact List.any_eq_true.2 ⟨x, List.mem_of_getElem? hx, e⟩
 ·intro e
  obtain ⟨x, hm, hk⟩ := List.any_eq_true.1 e
  have hk := of_decide_eq_true hk
  obtain ⟨i, hi⟩ := List.mem_iff_getElem?.1 hm
  rw [posC_at h hi hk, hi]; simp [hk]
theorem bs_some {f : List AV → Heap → Option (AX × List AV × Heap)} {σ : Heap} (pv : Nat → Nat → List AV) {v0 : List AV} {n : Nat} (h0 : v0 = pv 0 n) (q : Nat → Bool)
  (hs : ∀ i j, i < j → j ≤ n → f (pv i j) σ = some (.normal, if q ((i + j) / 2) = true then pv ((i + j) / 2 + 1) j else pv i ((i + j) / 2), σ))
  (he : ∀ i, i ≤ n → f (pv i i) σ = some (.exit 0, pv i i, σ)) : ∃ p, p ≤ n ∧ A.loop f v0 σ = some (.exit 0, pv p p, σ) := by
 subst h0
 have key : ∀ k i j, j - i ≤ k → i ≤ j → j ≤ n → ∃ p, p ≤ n ∧ ∃ m, A.iter f m (pv i j) σ = some (.exit 0, pv p p, σ) := by
  intro k
  induction k with
  | zero =>
   intro i j hk h1 h3
   have : i = j := by omega
   subst i
   exact ⟨j, h3, loop_done (he j h3) (by simp)⟩
  | succ k ih =>
   intro i j hk h1 h3
   by_cases hij : i < j
   ·have hstep := hs i j hij h3
    by_cases hh : q ((i + j) / 2) = true
    ·rw [if_pos hh] at hstep
     obtain ⟨p, hp, hm⟩ := ih _ _ (by omega) (show (i + j) / 2 + 1 ≤ j by omega) h3
     exact ⟨p, hp, loop_step hstep hm⟩
    ·rw [if_neg hh] at hstep
     obtain ⟨p, hp, hm⟩ := ih i ((i + j) / 2) (by omega) (by omega) (by omega)
     exact ⟨p, hp, loop_step hstep hm⟩
   ·have : i = j := by omega
    subst i
    exact ⟨j, h3, loop_done (he j h3) (by simp)⟩
 obtain ⟨p, hp, m, hm⟩ := key n 0 n (by omega) (by omega) (Nat.le_refl _)
 exact ⟨p, hp, loop_of_iter hm⟩
theorem bs_bind {β : Type} {f : List AV → Heap → Option (AX × List AV × Heap)} {σ : Heap} {K : AX × List AV × Heap → Option β} {r : Nat → β} (pv : Nat → Nat → List AV) {v0 : List AV} {n : Nat} (h0 : v0 = pv 0 n) (q : Nat → Bool)
  (hs : ∀ i j, i < j → j ≤ n → f (pv i j) σ = some (.normal, if q ((i + j) / 2) = true then pv ((i + j) / 2 + 1) j else pv i ((i + j) / 2), σ))
  (he : ∀ i, i ≤ n → f (pv i i) σ = some (.exit 0, pv i i, σ)) (hK : ∀ p, p ≤ n → K (.exit 0, pv p p, σ) = some (r p)) : ∃ p, p ≤ n ∧ (A.loop f v0 σ).bind K = some (r p) := by
 obtain ⟨p, hp, h⟩ := bs_some pv h0 q hs he
 exact ⟨p, hp, by rw [h, Option.bind_some, hK p hp]⟩
theorem bsC_no {dyn : Nat → List AV → Heap → Option (AV × Heap)} {l : List CueD} {fn : Nat} {k : Int} {cv : CueD → Int} {σ : Heap} (hl : l.length < 4611686018427387904)
  (hd : ∀ x ∈ l, dyn fn [.agg (cCue x), .int .i64 k] σ = some (.int .i64 (cv x), σ)) (hc : ∀ x ∈ l, cv x ≠ 0) :
  ∃ p : Nat, p ≤ l.length ∧ m_slices_BinarySearchFunc_api_Cue_int dyn [sl 11 cCue l, .int .i64 k, .fn fn []] σ = some (.tup [.int .i64 (p : Int), .bool false], σ) := by
 suffices h : ∃ p : Nat, p ≤ l.length ∧ r_slices_BinarySearchFunc_api_Cue_int dyn (sl 11 cCue l) (.int .i64 k) (.fn fn []) σ = some (.tup [.int .i64 (p : Int), .bool false], σ) by
  obtain ⟨p, hp, h⟩ := h
  exact ⟨p, hp, wrap_eq rfl h rfl⟩
 unfold r_slices_BinarySearchFunc_api_Cue_int
 rw [lenS_sl, Option.bind_some]
 refine bs_bind (v0 := [.int .i64 0, .int .i64 (l.length : Int)]) (r := fun p => ((AV.tup [.int .i64 (p : Int), .bool false], σ) : AV × Heap)) (fun i j => [.int .i64 (i : Int), .int .i64 (j : Int)]) rfl (fun h => ((l[h]?).any fun x => decide (cv x < 0))) (fun i j hij hj => ?_) (fun i hi => ?_) (fun p hp => ?_)
 ·have hlt : (i + j) / 2 < l.length := by omega
  have hx : l[(i + j) / 2]? = some l[(i + j) / 2] := List.getElem?_eq_getElem hlt
  have hdx := hd _ (List.mem_of_getElem? hx)
  have hia := iaddr_sl 11 cCue l hx
  have hq : A.callv dyn (.fn fn []) [.agg (cCue l[(i + j) / 2]), .int .i64 k] σ = some (.int .i64 (cv l[(i + j) / 2]), σ) := by simp only [A.callv, List.append_nil]; exact hdx
  simp only [List.getD_cons_succ, List.getD_cons_zero]
  rw [tlss, Option.bind_some, decide_eq_true hij]
  simp only [A.cond, cond_true]
  rw [tadd (by omega), Option.bind_some, conv_u (by omega), Option.bind_some, half_nn (by omega), Option.bind_some, conv_i (by omega), Option.bind_some, hia, Option.bind_some]
  simp only [A.deref, Option.bind_some, pA_cCue, A.lb]
  rw [hq, Option.bind_some, tlss0, Option.bind_some]
  simp only [hx, Option.any_some]
  by_cases hh : cv l[(i + j) / 2] < 0
  ·rw [decide_eq_true hh]
   simp only [cond_true, if_true, tadd1 (show (i + j) / 2 + 1 < 9223372036854775808 by omega), Option.bind_some]
   rfl
  ·rw [decide_eq_false hh]
   rfl
 ·simp only [List.getD_cons_succ, List.getD_cons_zero]
  rw [tlss, Option.bind_some, decide_eq_false (Nat.lt_irrefl i)]
  rfl
 ·simp only [exb, List.getD_cons_succ, List.getD_cons_zero]
  rw [tlss, Option.bind_some]
  by_cases hpl : p < l.length
  ·have hx : l[p]? = some l[p] := List.getElem?_eq_getElem hpl
   have hdx := hd _ (List.mem_of_getElem? hx)
   have hne := hc _ (List.mem_of_getElem? hx)
   have hia := iaddr_sl 11 cCue l hx
   have hq := quiet_of (by show A.callv dyn (.fn fn []) [.agg (cCue l[p]), .int .i64 k] σ = _; simp only [A.callv, List.append_nil]; exact hdx)
   simp only [decide_eq_true hpl, A.guard, beq_self_eq_true, cond_true, Option.bind_some, List.getD_cons_succ, List.getD_cons_zero, hia, A.deref, pA_cCue, A.lb, A.part1, A.partA, A.pick]
   show ((A.quiet (A.callv dyn (.fn fn []) [.agg (cCue l[p]), .int .i64 k] σ) σ).bind _) = _
   rw [hq, Option.bind_some, aEq, decide_eq_false hne]
   exact fin_same _ _
  ·simp only [decide_eq_false hpl, A.guard, Option.bind_some, A.pick]
   exact fin_same _ _
theorem place_t {l : List CueD} (hg : Good l) {n : Int} (hn : inI n) (σ : Heap) : ∃ p : Nat, m_cue_place [sl 11 cCue l, .int .i64 n] σ = some (.tup [.int .i64 (p : Int), .bool (hasC l n)], σ) ∧ p ≤ l.length ∧ ((1 ≤ n ∨ hasC l n = true) → p = posC l n) := by
 have hlen : l.length < 4611686018427387904 := by have := hg.len; omega
 have hd : ∀ x ∈ l, A.tab (fun _ _ => none) [(177, m_cue_place_fn1)] 177 [.agg (cCue x), .int .i64 n] σ = some (.int .i64 (IntKind.i64.wrap (x.number - n)), σ) := fun x _ => h_cue_place_fn1 (r := IntKind.i64.wrap (x.number - n)) rfl
 have wr : ∀ {p : Nat} {b : Bool}, m_slices_BinarySearchFunc_api_Cue_int (A.tab (fun _ _ => none) [(177, m_cue_place_fn1)]) [sl 11 cCue l, .int .i64 n, .fn 177 []] σ = some (.tup [.int .i64 (p : Int), .bool b], σ) →
   m_cue_place [sl 11 cCue l, .int .i64 n] σ = some (.tup [.int .i64 (p : Int), .bool b], σ) := by
  intro p b h
  refine wrap_eq rfl ?_ rfl
  rw [show A.nnL [Sh.e 11 [.k, .k, .k, .k, .k, .k, .k, .s 2, .k, .k, .s 8]] [sl 11 cCue l, .int .i64 n] = [sl 11 cCue l, .int .i64 n] from nn_t1 (nn_e (fun _ => rfl) _) rfl]
  show r_cue_place (sl 11 cCue l) (.int .i64 n) σ = _
  unfold r_cue_place
  rw [h, Option.bind_some]
  exact fin_same _ _
 by_cases hlow : -4611686018427387904 ≤ n
 ·refine ⟨posC l n, wr ?_, posC_le _ _, fun _ => rfl⟩
  have hw : ∀ x ∈ l, IntKind.i64.wrap (x.number - n) = x.number - n := fun x hx => by
   have := hg.num x hx
   unfold inI at hn
   exact wrap64 (by unfold inI; omega)
  rw [bsC (cv := fun x => IntKind.i64.wrap (x.number - n)) (p := posC l n) hlen (posC_le _ _) hd ?_]
  ·rw [← posC_has hg.srt]
   congr 4
   cases hx : l[posC l n]? with
   | none => rfl
   | some x =>
    simp only [Option.any_some]
    rw [hw x (List.mem_of_getElem? hx), show decide (x.number - n = 0) = decide (x.number = n) from decide_eq_decide.2 (by omega)]
  ·intro h x hx
   rw [hw x (List.mem_of_getElem? hx), ← posC_lt hg.srt hx]
   omega
 ·have hno : hasC l n = false := by
   rw [Bool.eq_false_iff]
   intro e
   obtain ⟨x, hx, hk⟩ := List.any_eq_true.1 e
   have := hg.num x hx
   have := of_decide_eq_true hk
   omega
  obtain ⟨p, hp, h⟩ := bsC_no hlen hd (fun x hx e => by
   have hnum := hg.num x hx
   unfold inI at hn
   have h2 : IntKind.i64.wrap (x.number - n) = x.number - n ∨ IntKind.i64.wrap (x.number - n) = x.number - n - 18446744073709551616 := by
    by_cases hh : x.number - n < 9223372036854775808
    ·exact .inl (wrap64 (by unfold inI; omega))
    ·right
     unfold IntKind.wrap
     simp [IntKind.bits, IntKind.signed]
     omega
   rcases h2 with h2 | h2 <;> rw [h2] at e <;> omega)
  exact ⟨p, by rw [hno]; exact wr h, hp, fun q => by
   rcases q with q | q
   ·omega
   ·rw [hno] at q; cases q⟩
section
variable {α R γ S B : Type}
def scanL (q : Nat → α → Option R) : List α → Nat → Option R
 | [], _ => none
 | x :: l, i => match q i x with | some r => some r | none => scanL q l (i + 1)
theorem whE_scan {l : List α} {q : Nat → α → Option R} {body : Int → Option (Lr Int Unit R)} {K1 : Unit → Option γ} {K2 : R → Option γ} (hb : ∀ (i : Nat) x, l[i]? = some x → body (i : Int) = some (match q i x with | some r => .ret r | none => .go ((i + 1 : Nat) : Int)))
  (he : ∀ i : Nat, l.length ≤ i → body (i : Int) = some (.brk ())) (i : Nat) : whE body (i : Int) K1 K2 = (match scanL q (l.drop i) i with | some r => K2 r | none => K1 ()) := by
 have key : ∀ (k i : Nat), l.length - i ≤ k → whL body (i : Int) = some (match scanL q (l.drop i) i with | some r => .inr r | none => .inl ()) := by
  intro k
  induction k with
  | zero =>
   intro i hk
   rw [whL_step, he i (by omega), Option.bind_some, List.drop_of_length_le (by omega)]
   rfl
  | succ k ih =>
   intro i hk
   by_cases hi : i < l.length
   ·have hx : l[i]? = some l[i] := List.getElem?_eq_getElem hi
    rw [whL_step, hb i _ hx, Option.bind_some, List.drop_eq_getElem_cons hi, scanL]
    cases h : q i l[i] with
    | some r => rfl
    | none => simp only; exact ih (i + 1) (by omega)
   ·rw [whL_step, he i (by omega), Option.bind_some, List.drop_of_length_le (by omega)]
    rfl
 rw [whE, key _ i (Nat.le_refl _), Option.bind_some]
 cases scanL q (l.drop i) i <;> rfl
theorem whE_while {l : List α} {pr : α → Bool} {body : Int → Option (Lr Int Int R)} {K1 : Int → Option γ} {K2 : R → Option γ} (hb : ∀ (i : Nat) x, l[i]? = some x → body (i : Int) = some (if pr x = true then .go ((i + 1 : Nat) : Int) else .brk (i : Int)))
  (he : body (l.length : Int) = some (.brk (l.length : Int))) {s : Int} (h0 : s = 0) : whE body s K1 K2 = K1 ((l.takeWhile pr).length : Int) := by
 subst h0
 have key : ∀ (k i : Nat), l.length - i ≤ k → i ≤ l.length → whL body (i : Int) = some (.inl ((i + ((l.drop i).takeWhile pr).length : Nat) : Int)) := by
  intro k
  induction k with
  | zero =>
   intro i hk hle
   have : i = l.length := by omega
   subst this
   rw [whL_step, he, Option.bind_some, List.drop_of_length_le (Nat.le_refl _)]
   rfl
  | succ k ih =>
   intro i hk hle
   by_cases hi : i < l.length
   ·have hx : l[i]? = some l[i] := List.getElem?_eq_getElem hi
    rw [whL_step, hb i _ hx, Option.bind_some, List.drop_eq_getElem_cons hi, List.takeWhile_cons]
    cases h : pr l[i]
    ·simp
    ·simp only [if_true, List.length_cons]
     rw [ih (i + 1) (by omega) (by omega)]
     congr 3; omega
   ·have : i = l.length := by omega
    subst this
    rw [whL_step, he, Option.bind_some, List.drop_of_length_le (Nat.le_refl _)]
    rfl
 have k := key l.length 0 (by omega) (by omega)
 simp only [Nat.zero_add, List.drop_zero] at k
 show whE body ((0 : Nat) : Int) K1 K2 = _
 rw [whE, k]; rfl
theorem tIx_nat {l : List α} {i : Nat} {x : α} (h : l[i]? = some x) : tIx l (i : Int) = some x := tIx_get (by omega) (by simpa using h)
end
theorem moveOf_t {l : List MoveD} (hs : srtM l) (hl : l.length < 4611686018427387904) (k : KeyD) : t_R5_moveOf l k = some ((posM l k : Int), hasM l k) := by
 unfold t_R5_moveOf
 refine (whE_while (l := l) (pr := fun m => ltK m.key k) (fun i x hx => ?_) ?_ rfl).trans ?_
 ·have hi := (List.getElem?_eq_some_iff.1 hx).1
  have hi' : ((i : Int) < (l.length : Int)) := by omega
  have e : (decide (x.key.unit < k.unit) || decide (x.key.unit = k.unit) && Op.bytesLess x.key.param.toList k.param.toList) = ltK x.key k := rfl
  simp only [decide_eq_true hi', if_true, tIx_nat hx, Option.bind_some, wrap64 (show inI ((i : Int) + 1) by unfold inI; omega), Bool.true_and, e]
  cases ltK x.key k <;> simp
 ·simp only [decide_eq_false (by omega : ¬ ((l.length : Int) < (l.length : Int))), Bool.false_eq_true, if_false, Option.bind_some, Bool.false_and]
 ·show ((if decide ((posM l k : Int) < (l.length : Int)) = true then tIx l (posM l k : Int) else some default).bind fun x9 => some ((posM l k : Int), ((decide ((posM l k : Int) < (l.length : Int))) && (decide (x9.key = k))))) = _
  rw [← posM_has hs]
  by_cases hp : posM l k < l.length
  ·have hx : l[posM l k]? = some l[posM l k] := List.getElem?_eq_getElem hp
   have hp' : ((posM l k : Int) < (l.length : Int)) := by omega
   rw [decide_eq_true hp', if_pos rfl, tIx_nat hx, Option.bind_some, hx]
   simp
  ·have hx : l[posM l k]? = none := List.getElem?_eq_none (by omega)
   have hp' : ¬ ((posM l k : Int) < (l.length : Int)) := by omega
   rw [decide_eq_false hp', if_neg (by decide), Option.bind_some, hx]
   simp
def blkF (l : List CueD) (i : Nat) : Option Nat := scanL (fun j c => if c.block = true then some j else none) (l.drop i) i
theorem blocked_t {l : List CueD} (hl : l.length < 4611686018427387904) (i : Nat) : t_cue_blocked l (i : Int) = some (match blkF l i with | some j => (j : Int) | none => -1) := by
 unfold t_cue_blocked
 refine (whE_scan (l := l) (q := fun j c => if c.block = true then some (j : Int) else none) (fun i x hx => ?_) (fun i hi => ?_) i).trans ?_
 rotate_left 2
 ·unfold blkF
  have key : ∀ (m : List CueD) (i : Nat), scanL (fun j c => if c.block = true then some (j : Int) else none) m i = (scanL (fun j c => if c.block = true then some j else none) m i).map fun j => (j : Int) := by
   intro m
   induction m with
   | nil => intro i; rfl
   | cons x m ih =>
    intro i
    rw [scanL, scanL]
    cases x.block
    ·simp only [Bool.false_eq_true, if_false]; exact ih (i + 1)
    ·rfl
  rw [key]
  cases scanL (fun j c => if c.block = true then some j else none) (l.drop i) i <;> rfl
 ·have hi := (List.getElem?_eq_some_iff.1 hx).1
  have hi' : ((i : Int) < (l.length : Int)) := by omega
  simp only [if_pos hi', tIx_nat hx, Option.bind_some, wrap64 (show inI ((i : Int) + 1) by unfold inI; omega)]
  cases x.block <;> simp
 ·have hi' : ¬ ((i : Int) < (l.length : Int)) := by omega
  simp only [if_neg hi']
def blkK (l : List CueD) (i : Nat) (k : KeyD) : Option Int := scanL (fun j c => if hasM c.moves k = true then some (-1) else if c.block = true then some (j : Int) else none) (l.drop i) i
theorem blocked5_t {l : List CueD} (hl : l.length < 4611686018427387904) (hm : ∀ c ∈ l, srtM c.moves ∧ c.moves.length < 4611686018427387904) (i : Nat) (k : KeyD) : t_R5_blocked l (i : Int) k = some ((blkK l i k).getD (-1)) := by
 unfold t_R5_blocked
 refine (whE_scan (l := l) (q := fun j c => if hasM c.moves k = true then some (-1) else if c.block = true then some (j : Int) else none) (fun i x hx => ?_) (fun i hi => ?_) i).trans ?_
 rotate_left 2
 ·unfold blkK
  cases scanL _ (l.drop i) i <;> rfl
 ·have hi := (List.getElem?_eq_some_iff.1 hx).1
  have hi' : ((i : Int) < (l.length : Int)) := by omega
  obtain ⟨h1, h2⟩ := hm x (List.mem_of_getElem? hx)
  simp only [if_pos hi', tIx_nat hx, Option.bind_some, moveOf_t h1 h2, wrap64 (show inI ((i : Int) + 1) by unfold inI; omega)]
  cases hasM x.moves k <;> cases x.block <;> simp
 ·have hi' : ¬ ((i : Int) < (l.length : Int)) := by omega
  simp only [if_neg hi']
theorem moved_t {l : List CueD} (hl : l.length ≤ mxl) (hm : ∀ c ∈ l, srtM c.moves ∧ c.moves.length < 4611686018427387904) (k : KeyD) (σ : Heap) : m_cue_moved [sl 11 cCue l, .agg (cKey k)] σ = some (.bool (l.any fun c => hasM c.moves k), σ) := by
 refine wrap_eq rfl ?_ rfl
 rw [show A.nnL [Sh.e 11 [.k, .k, .k, .k, .k, .k, .k, .s 2, .k, .k, .s 8]] [sl 11 cCue l, .agg (cKey k)] = [sl 11 cCue l, .agg (cKey k)] from nn_t1 (nn_e (fun _ => rfl) _) rfl]
 show r_cue_moved (sl 11 cCue l) (.agg (cKey k)) σ = _
 unfold r_cue_moved
 rw [show A.cells 2 (.agg (cKey k)) = some (cKey k) from rfl, Option.bind_some, Option.bind_some]
 rw [m_slices_ContainsFunc_api_Cue_eq _ l hl _ _ (fun c => hasM c.moves k) σ ?_, Option.bind_some]
 ·exact fin_same _ _
 intro x hx
 obtain ⟨h1, h2⟩ := hm x hx
 show m_cue_moved_fn1 [.agg (cCue x), .rp (cKey k)] σ = _
 refine wrap_eq rfl ?_ rfl
 show r_cue_moved_fn1 (.agg (cCue x)) (.rp (cKey k)) σ = _
 unfold r_cue_moved_fn1
 rw [ce_cCue, Option.bind_some, pA_cCue, Option.bind_some]
 simp only [A.deref, Option.bind_some]
 rw [show A.partA 0 2 (cKey k) = some (.agg (cKey k)) from rfl, Option.bind_some, moveAt_t h1 h2 , Option.bind_some]
 exact fin_same _ _
end Go.Proofs.YtphgchakmkankaaGreat

namespace Go.Proofs.YtphgchakmkankaaGreat
set_option linter.unusedSectionVars false
set_option linter.unusedVariables false
set_option linter.unusedSimpArgs false
open HP
def Lt (σ : Heap) (sh : Sh) (v t : AV) : Prop := (∃ v', A.frz σ 0 8 v = some v' ∧ A.own v' = false ∧ A.nn sh v' = A.nn sh t) ∧ A.own t = false ∧ (A.own v = false → A.nn sh v = A.nn sh t)
def LtL (σ : Heap) : List Sh → List AV → List AV → Prop
 | _, [], [] => True
 | [], a :: aas, t :: ts => Lt σ .k a t ∧ LtL σ [] aas ts
 | s :: ss, a :: aas, t :: ts => Lt σ s a t ∧ LtL σ ss aas ts
 | _, _, _ => False
theorem nn_k (v : AV) : A.nn .k v = v := by simp [A.nn]
theorem ltL {σ : Heap} : ∀ {ss : List Sh} {aas ts : List AV}, LtL σ ss aas ts → (∃ aas', A.frzL σ 0 8 aas = some aas' ∧ aas'.any A.own = false ∧ A.nnL ss aas' = A.nnL ss ts) ∧ ts.any A.own = false ∧ (aas.any A.own = false → A.nnL ss aas = A.nnL ss ts)
 | ss, [], [], _ => ⟨⟨[], by simp [A.frzL], rfl, rfl⟩, rfl, fun _ => rfl⟩
 | [], a :: aas, t :: ts, h => by
  obtain ⟨⟨⟨v', h1, h2, h3⟩, h4, h5⟩, h6⟩ := h
  obtain ⟨⟨aas', k1, k2, k3⟩, k4, k5⟩ := ltL h6
  rw [nn_k, nn_k] at h3
  simp only [A.nnL] at k3 k5
  refine ⟨⟨v' :: aas', by simp [A.frzL, h1, k1], by simp [h2, k2], by simp [A.nnL, h3, k3]⟩, by simp [h4, k4], fun h => ?_⟩
  simp only [List.any_cons, Bool.or_eq_false_iff] at h
  have := h5 h.1
  rw [nn_k, nn_k] at this
  simp [A.nnL, this, k5 h.2]
 | s :: ss, a :: aas, t :: ts, h => by
  obtain ⟨⟨⟨v', h1, h2, h3⟩, h4, h5⟩, h6⟩ := h
  obtain ⟨⟨aas', k1, k2, k3⟩, k4, k5⟩ := ltL h6
  refine ⟨⟨v' :: aas', by simp [A.frzL, h1, k1], by simp [h2, k2], by simp [A.nnL, h3, k3]⟩, by simp [h4, k4], fun h => ?_⟩
  simp only [List.any_cons, Bool.or_eq_false_iff] at h
  simp [A.nnL, h5 h.1, k5 h.2]
 | _, [], _ :: _, h => by cases h
 | [], _ :: _, [], h => by cases h
 | _ :: _, _ :: _, [], h => by cases h
theorem lent {ain : List Sh} {rout : Sh} {r : List AV → Heap → Option (AV × Heap)} {aas ts : List AV} {σ : Heap} {v : AV} (h : LtL σ ain aas ts) (e : ∀ σ, A.wrap true ain rout r ts σ = some (v, σ)) (hs : A.scal v = true) : A.wrap true ain rout r aas σ = some (v, σ) := by
 obtain ⟨⟨aas', k1, k2, k3⟩, k4, k5⟩ := ltL h
 cases ho : aas.any A.own
 ·rw [wrap_nn (k5 ho) ho k4]; exact e σ
 ·exact wrap_own ho k1 k2 (by rw [wrap_nn k3 k2 k4]; exact e []) hs
theorem lt_fz {σ : Heap} {sh : Sh} {v : AV} (h : Fz v) (ho : A.own v = false) : Lt σ sh v v := ⟨⟨v, h σ 0 8, ho, rfl⟩, ho, fun _ => rfl⟩
theorem lt_int {σ : Heap} (n : Int) : Lt σ .k (.int .i64 n) (.int .i64 n) := lt_fz (fz_int _ _) rfl
section
variable {α : Type} {c : α → List AV} {sz : Nat} {B : Blk → Prop} {σ0 σ : Heap} {R : HP} {v : AV} {l : List α}
def Sf (c : α → List AV) (sz : Nat) (v : AV) (l : List α) : HP := fun h => (v = sl sz c l ∧ emp h) ∨ Sl (fl c) sz v l h
theorem sf_cases (H : Hs B σ0 σ (Sf c sz v l * R)) : (v = sl sz c l ∧ Hs B σ0 σ R) ∨ Hs B σ0 σ (Sl (fl c) sz v l * R) := by
 have H2 := hs_drop H
 obtain ⟨h1, h, ⟨f, g, hf, hg, hd, hh⟩, h2⟩ := H
 rcases hf with ⟨k1, k2⟩ | k
 ·exact .inl ⟨k1, H2⟩
 ·exact .inr ⟨h1, h, ⟨f, g, k, hg, hd, hh⟩, h2⟩
theorem sf_own (H : Hs B σ0 σ (Sl (fl c) sz v l * R)) : Hs B σ0 σ (Sf c sz v l * R) := hs_mono (fun h k => .inr k) H
theorem slf_cases (H : Hs B σ0 σ (Sl (fl c) sz v l * R)) : (l = [] ∧ (v = .nsl ∨ v = .ez) ∧ Hs B σ0 σ R) ∨ ∃ id g, v = .os id g sz 0 l.length ∧ Hs B σ0 σ (blk id (.arr g sz (l.map c)) * R) := by
 rcases sl_cases H with h | ⟨id, g, seg, rfl, hl, H⟩
 ·exact .inl h
 ·have K := els_fl.1 (hs_eq (show _ = els (fl c) seg l * (blk id (.arr g sz seg) * R) by ac_rfl) H)
  obtain ⟨rfl, K⟩ := K
  exact .inr ⟨id, g, rfl, K⟩
theorem slf_os {id g : Nat} {n : Nat} (H : Hs B σ0 σ (blk id (.arr g sz (l.map c)) * R)) (hn : n = l.length := by rfl) : Hs B σ0 σ (Sl (fl c) sz (.os id g sz 0 n) l * R) :=
 sl_os (id := id) (g := g) (seg := l.map c) (hs_eq (show els (fl c) (l.map c) l * (blk id (.arr g sz (l.map c)) * R) = _ by ac_rfl) (els_fl.2 ⟨rfl, H⟩)) hn
theorem frz_os (hc : ∀ x, FzL (c x)) {id g : Nat} (h : σ[id]? = some (.arr g sz (l.map c))) {n : Nat} (hn : ¬ id < n) (d : Nat) : A.frz σ n (d + 1) (.os id g sz 0 l.length) = some (sl sz c l) := by
 simp only [A.frz, if_neg hn, h]
 rw [if_pos (by simp), List.drop_zero, List.take_of_length_le (by simp), frzLL_eq, fzLL hc]
 rfl
theorem slf_fz (H : Hs B σ0 σ (Sl (fl c) sz v l * R)) (hc : ∀ x, FzL (c x)) {n : Nat} (hn : n ≤ σ0.length) (d : Nat) : ∃ v', A.frz σ n (d + 1) v = some v' ∧ A.own1 v' = false ∧ A.nn (.s sz) v' = sl sz c l := by
 rcases slf_cases H with ⟨rfl, rfl | rfl, _⟩ | ⟨id, g, rfl, K⟩
 ·exact ⟨.nsl, by simp [A.frz], rfl, rfl⟩
 ·exact ⟨.ez, by simp [A.frz], rfl, rfl⟩
 ·obtain ⟨h1, h2⟩ := hs_get K
  exact ⟨_, frz_os hc h2 (by omega) d, rfl, rfl⟩
theorem sf_fz (H : Hs B σ0 σ (Sf c sz v l * R)) (hc : ∀ x, FzL (c x)) {n : Nat} (hn : n ≤ σ0.length) (d : Nat) : ∃ v', A.frz σ n (d + 1) v = some v' ∧ A.own1 v' = false ∧ A.nn (.s sz) v' = sl sz c l := by
 rcases sf_cases H with ⟨rfl, _⟩ | H
 ·exact ⟨_, fz_sl hc l σ n (d + 1), rfl, rfl⟩
 ·exact slf_fz H hc hn d
structure Cl (p : AV) (F : List AV → HP) : Prop where
 nc : A.nilck p = some p
 ow : A.own p = true
 ld : ∀ {σ0 σ : Heap} {e : List AV} {R : HP}, Hs anyB σ0 σ (F e * R) → A.deref p σ = some e
 fa : ∀ (o : Nat), ∃ q, A.faddr o p = some q ∧ (∀ {σ0 σ : Heap} {e : List AV} {R : HP}, Hs anyB σ0 σ (F e * R) → A.deref q σ = some (e.drop o)) ∧
  ∀ {σ0 σ : Heap} {e : List AV} {R : HP} {new e' : List AV}, Hs anyB σ0 σ (F e * R) → A.splice o new e = some e' → ∃ σ', A.storeAt q new σ = some σ' ∧ Hs anyB σ0 σ' (F e' * R)
 st : ∀ {σ0 σ : Heap} {e : List AV} {R : HP} {new e' : List AV}, Hs anyB σ0 σ (F e * R) → A.splice 0 new e = some e' → ∃ σ', A.storeAt p new σ = some σ' ∧ Hs anyB σ0 σ' (F e' * R)
 fc : ∀ (o o' : Nat) (q : AV), A.faddr o p = some q → A.faddr o' q = A.faddr (o + o') p
theorem hs_any {P : HP} (H : Hs B σ0 σ P) : Hs anyB σ0 σ P := ⟨by obtain ⟨bs, h, _⟩ := H.pre; exact ⟨bs, h, fun _ _ => trivial⟩, H.own⟩
end
section
variable {α : Type} {E : List AV → α → HP} {sz : Nat} {σ0 σ : Heap} {R : HP} {v : AV} {l : List α}
theorem sl_cell (H : Hs anyB σ0 σ (Sl E sz v l * R)) {i : Nat} {x : α} (hx : l[i]? = some x) : ∃ p F e, A.iaddr sz v (.int .i64 (i : Int)) = some p ∧ Cl p F ∧ Hs anyB σ0 σ (F e * (E e x * R)) ∧
  ∀ {σ : Heap} {e : List AV} {y : α} {R : HP}, Hs anyB σ0 σ (F e * (E e y * R)) → Hs anyB σ0 σ (Sl E sz v (l.set i y) * R) := by
 have hi := (List.getElem?_eq_some_iff.1 hx).1
 rcases sl_cases H with ⟨rfl, _, _⟩ | ⟨id, g, seg, rfl, hl, H⟩
 ·simp at hx
 ·have he : seg[i]? = some seg[i] := List.getElem?_eq_getElem (by omega)
  have rd : ∀ {σ0 σ : Heap} {e : List AV} {R : HP} (o : Nat), Hs anyB σ0 σ (blk id (.arr g sz (seg.set i e)) * els E (seg.eraseIdx i) (l.eraseIdx i) * R) → A.deref (.oe id g i o) σ = some (e.drop o) := by
   intro σ0 σ e R o K
   obtain ⟨_, k2⟩ := hs_get (hs_eq (star_assoc _ _ _) K)
   simp only [A.deref, k2, if_true]
   rw [List.getElem?_set_self (by omega)]
   rfl
  have wr : ∀ {σ0 σ : Heap} {e : List AV} {R : HP} {new e' : List AV} (o : Nat), Hs anyB σ0 σ (blk id (.arr g sz (seg.set i e)) * els E (seg.eraseIdx i) (l.eraseIdx i) * R) → A.splice o new e = some e' →
    ∃ σ', A.storeAt (.oe id g i o) new σ = some σ' ∧ Hs anyB σ0 σ' (blk id (.arr g sz (seg.set i e')) * els E (seg.eraseIdx i) (l.eraseIdx i) * R) := by
   intro σ0 σ e R new e' o K hs
   have K' := hs_eq (star_assoc _ _ _) K
   obtain ⟨_, k2⟩ := hs_get K'
   refine ⟨σ.set id (.arr g sz (seg.set i e')), ?_, ?_⟩
   ·simp only [A.storeAt, k2, if_true]
    rw [List.getElem?_set_self (by omega), Option.bind_some, hs, Option.map_some, List.set_set]
   ·exact hs_eq (star_assoc _ _ _).symm (hs_set (b' := .arr g sz (seg.set i e')) K' trivial)
  refine ⟨.oe id g i 0, fun e => blk id (.arr g sz (seg.set i e)) * els E (seg.eraseIdx i) (l.eraseIdx i), seg[i], ?_, ⟨rfl, rfl, fun K => by have := rd 0 K; simpa using this, fun o => ⟨.oe id g i o, by simp [A.faddr], fun K => rd o K, fun K hs => wr o K hs⟩, fun K hs => wr 0 K hs, fun o o' q hq => by simp [A.faddr] at hq; subst hq; simp [A.faddr]⟩, ?_, ?_⟩
  ·have hi' : ((i : Int) < (l.length : Int)) := by omega
   simp [A.iaddr, A.idx, hi']
  ·refine hs_eq ?_ H
   have e1 : seg.set i seg[i] = seg := List.set_getElem_self (by omega)
   simp only [e1]
   rw [els_at hl he hx]
   ac_rfl
  ·intro σ e y R K
   refine sl_os (id := id) (g := g) (seg := seg.set i e) (hs_eq ?_ K) (by simp)
   have e1 : els E (seg.set i e) (l.set i y) = els E (seg.eraseIdx i) (l.eraseIdx i) * E e y := by
    rw [els_at (i := i) (e := e) (x := y) (by simp [hl]) (by rw [List.getElem?_set_self (by omega)]) (by rw [List.getElem?_set_self hi])]
    rw [List.eraseIdx_set_eq, List.eraseIdx_set_eq]
   rw [e1]
   ac_rfl
end
def cCueH (x : CueD) (vp vm : AV) : List AV := [.int .i64 x.number, .str x.title, .int .i64 x.delay, .int .i64 x.up, .int .i64 x.down, .int .i64 x.other, .int .i64 x.curve.kind, vp, .bool x.block, .int .i64 x.follow, vm]
def CueP (M : AV → List MoveD → HP) : List AV → CueD → HP := fun e x => ex fun vp => ex fun vm => pr (e = cCueH x vp vm) * (Sf cPoint 2 vp x.curve.points * M vm x.moves)
def CueE : List AV → CueD → HP := CueP (Sl (fl cMove) 8)
def CueF : List AV → CueD → HP := CueP (Sf cMove 8)
def shCue : List Sh := [.k, .k, .k, .k, .k, .k, .k, .s 2, .k, .k, .s 8]
section
variable {B : Blk → Prop} {σ0 σ : Heap} {R : HP} {M : AV → List MoveD → HP} {e : List AV} {x : CueD}
theorem cueP (H : Hs B σ0 σ (CueP M e x * R)) : ∃ vp vm, e = cCueH x vp vm ∧ Hs B σ0 σ (Sf cPoint 2 vp x.curve.points * (M vm x.moves * R)) := by
 unfold CueP at H
 rw [hs_ex] at H
 obtain ⟨vp, H⟩ := H
 rw [hs_ex] at H
 obtain ⟨vm, H⟩ := H
 rw [star_assoc, hs_pr] at H
 exact ⟨vp, vm, H.1, hs_eq (by ac_rfl) H.2⟩
theorem cueP_of {vp vm : AV} (he : e = cCueH x vp vm) (H : Hs B σ0 σ (Sf cPoint 2 vp x.curve.points * (M vm x.moves * R))) : Hs B σ0 σ (CueP M e x * R) := by
 unfold CueP
 rw [hs_ex]
 refine ⟨vp, ?_⟩
 rw [hs_ex]
 refine ⟨vm, ?_⟩
 rw [star_assoc, hs_pr]
 exact ⟨he, hs_eq (by ac_rfl) H⟩
theorem cue_weak (H : Hs B σ0 σ (CueE e x * R)) : Hs B σ0 σ (CueF e x * R) := by
 obtain ⟨vp, vm, he, H⟩ := cueP H
 exact cueP_of he (hs_eq (by ac_rfl) (sf_own (hs_eq (show _ = Sl (fl cMove) 8 vm x.moves * (Sf cPoint 2 vp x.curve.points * R) by ac_rfl) H)))
theorem cueF_fz (H : Hs B σ0 σ (CueF e x * R)) {n : Nat} (hn : n ≤ σ0.length) (d : Nat) : ∃ e', A.frzL σ n (d + 1) e = some e' ∧ e'.any A.own1 = false ∧ A.nnL shCue e' = cCue x := by
 obtain ⟨vp, vm, he, K⟩ := cueP H
 subst he
 obtain ⟨vp', p1, p2, p3⟩ := sf_fz K fz_cPoint hn d
 obtain ⟨vm', m1, m2, m3⟩ := sf_fz (hs_drop K) fz_cMove hn d
 refine ⟨cCueH x vp' vm', ?_, ?_, ?_⟩
 ·simp [cCueH, A.frzL, A.frz, p1, m1]
 ·simp only [cCueH, List.any_cons, List.any_nil, p2, m2]; rfl
 ·simp only [cCueH, shCue, A.nnL, nn_k, p3, m3]; rfl
theorem elsF_fz : ∀ {seg : List (List AV)} {l : List CueD} {R : HP}, Hs B σ0 σ (els CueF seg l * R) → ∀ {n : Nat}, n ≤ σ0.length → ∀ (d : Nat), ∃ seg', A.frzLL σ n (d + 1) seg = some seg' ∧ seg'.map (A.nnL shCue) = l.map cCue
 | [], [], R, H, n, hn, d => ⟨[], by simp [A.frzLL], rfl⟩
 | [], _ :: _, R, H, n, hn, d => (hs_pr.1 H).1.elim
 | _ :: _, [], R, H, n, hn, d => (hs_pr.1 H).1.elim
 | e :: seg, x :: l, R, H, n, hn, d => by
  rw [els, star_assoc] at H
  obtain ⟨e', h1, _, h3⟩ := cueF_fz H hn d
  obtain ⟨seg', k1, k2⟩ := elsF_fz (hs_drop H) hn d
  exact ⟨e' :: seg', by simp [A.frzLL, h1, k1], by simp [h3, k2]⟩
theorem els_weak : ∀ {seg : List (List AV)} {l : List CueD} {R : HP}, Hs B σ0 σ (els CueE seg l * R) → Hs B σ0 σ (els CueF seg l * R)
 | [], [], R, H => H
 | [], _ :: _, R, H => H
 | _ :: _, [], R, H => H
 | e :: seg, x :: l, R, H => by
  rw [els] at H ⊢
  have H2 := els_weak (hs_eq (show _ = els CueE seg l * (CueE e x * R) by ac_rfl) H)
  have H3 := cue_weak (hs_eq (show _ = CueE e x * (els CueF seg l * R) by ac_rfl) H2)
  exact hs_eq (by ac_rfl) H3
variable {v : AV} {l : List CueD}
theorem cues_weak (H : Hs B σ0 σ (Sl CueE 11 v l * R)) : Hs B σ0 σ (Sl CueF 11 v l * R) := by
 rcases sl_cases H with ⟨rfl, hv, H⟩ | ⟨id, g, seg, rfl, hl, H⟩
 ·exact slz H hv
 ·have H2 := els_weak (hs_eq (show _ = els CueE seg l * (blk id (.arr g 11 seg) * R) by ac_rfl) H)
  exact sl_os (id := id) (g := g) (seg := seg) (hs_eq (by ac_rfl) H2)
theorem cuesF_fz (H : Hs B σ0 σ (Sl CueF 11 v l * R)) {n : Nat} (hn : n ≤ σ0.length) (d : Nat) : ∃ v', A.frz σ n (d + 2) v = some v' ∧ A.own1 v' = false ∧ A.nn (.e 11 shCue) v' = sl 11 cCue l := by
 rcases sl_cases H with ⟨rfl, rfl | rfl, _⟩ | ⟨id, g, seg, rfl, hl, H⟩
 ·exact ⟨.nsl, by simp [A.frz], rfl, rfl⟩
 ·exact ⟨.ez, by simp [A.frz], rfl, rfl⟩
 ·obtain ⟨h1, h2⟩ := hs_get H
  obtain ⟨seg', k1, k2⟩ := elsF_fz (hs_eq (show _ = els CueF seg l * (blk id (.arr g 11 seg) * R) by ac_rfl) H) hn d
  refine ⟨.sl 11 seg', ?_, rfl, ?_⟩
  ·simp only [A.frz, if_neg (show ¬ id < n by omega), h2]
   rw [if_pos (by simp; omega), List.drop_zero, List.take_of_length_le (by omega), frzLL_eq, k1]
   rfl
  ·simp only [A.nn, k2]; rfl
theorem nn_idem_cues (l : List CueD) : A.nn (.e 11 shCue) (sl 11 cCue l) = sl 11 cCue l := nn_e (fun _ => rfl) l
theorem lt_cuesF (H : Hs B σ0 σ (Sl CueF 11 v l * R)) : Lt σ (.e 11 shCue) v (sl 11 cCue l) := by
 obtain ⟨v', h1, h2, h3⟩ := cuesF_fz H (Nat.zero_le _) 6
 refine ⟨⟨v', h1, ?_, by rw [h3, nn_idem_cues]⟩, rfl, fun ho => ?_⟩
 ·rcases sl_cases H with ⟨rfl, rfl | rfl, _⟩ | ⟨id, g, seg, rfl, hl, H⟩
  ·simp [A.frz] at h1; subst h1; rfl
  ·simp [A.frz] at h1; subst h1; rfl
  ·cases v' <;> first | rfl | cases h2 | skip
   rename_i cs
   simp only [A.nn] at h3
   cases h3
 ·rcases sl_cases H with ⟨rfl, rfl | rfl, _⟩ | ⟨id, g, seg, rfl, hl, H⟩
  ·rfl
  ·rfl
  ·cases ho
theorem lt_cues (H : Hs B σ0 σ (Sl CueE 11 v l * R)) : Lt σ (.e 11 shCue) v (sl 11 cCue l) := lt_cuesF (cues_weak H)
theorem lt_cueF (H : Hs B σ0 σ (CueF e x * R)) : Lt σ (.a shCue) (.agg e) (.agg (cCue x)) := by
 obtain ⟨e', h1, h2, h3⟩ := cueF_fz H (Nat.zero_le _) 7
 obtain ⟨vp, vm, he, K0⟩ := cueP H
 refine ⟨⟨.agg e', by simp [A.frz, h1], by simpa [A.own] using h2, ?_⟩, rfl, fun ho => ?_⟩
 ·simp only [A.nn, h3]
  rw [show A.nnL shCue (cCue x) = cCue x from rfl]
 ·subst he
  have hp : A.own1 vp = false ∧ A.own1 vm = false := by
   simp only [A.own, cCueH, List.any_cons, List.any_nil, Bool.or_eq_false_iff] at ho
   exact ⟨ho.2.2.2.2.2.2.2.1, ho.2.2.2.2.2.2.2.2.2.2.1⟩
  have q1 : A.nn (.s 2) vp = sl 2 cPoint x.curve.points := by
   rcases sf_cases K0 with ⟨rfl, _⟩ | K
   ·rfl
   ·rcases slf_cases K with ⟨e0, rfl | rfl, _⟩ | ⟨id, g, rfl, _⟩
    ·rw [e0]; rfl
    ·rw [e0]; rfl
    ·cases hp.1
  have q2 : A.nn (.s 8) vm = sl 8 cMove x.moves := by
   rcases sf_cases (hs_drop K0) with ⟨rfl, _⟩ | K
   ·rfl
   ·rcases slf_cases K with ⟨e0, rfl | rfl, _⟩ | ⟨id, g, rfl, _⟩
    ·rw [e0]; rfl
    ·rw [e0]; rfl
    ·cases hp.2
  have q3 : A.nnL shCue (cCueH x vp vm) = cCue x := by simp only [cCueH, shCue, A.nnL, nn_k, q1, q2]; rfl
  show AV.agg (A.nnL shCue (cCueH x vp vm)) = AV.agg (A.nnL shCue (cCue x))
  rw [q3]; rfl
end
end Go.Proofs.YtphgchakmkankaaGreat

namespace Go.Proofs.YtphgchakmkankaaGreat
set_option linter.unusedSectionVars false
set_option linter.unusedVariables false
set_option linter.unusedSimpArgs false
open HP
theorem loop_hs {α : Type} {f : List AV → Heap → Option LS} {Q : LS → Prop} (l : List α) (I : Nat → List AV → Heap → Prop) {v0 : List AV} {σ : Heap}
  (hstep : ∀ i x v σ, l[i]? = some x → I i v σ → ∃ v' σ', f v σ = some (.normal, v', σ') ∧ I (i + 1) v' σ')
  (hend : ∀ v σ, I l.length v σ → ∃ q, f v σ = some q ∧ q.1 ≠ .normal ∧ Q q) (h0 : I 0 v0 σ) : ∃ q, A.loop f v0 σ = some q ∧ Q q := by
 have key : ∀ (k i : Nat) v σ, l.length - i ≤ k → i ≤ l.length → I i v σ → ∃ q, (∃ n, A.iter f n v σ = some q) ∧ Q q := by
  intro k
  induction k with
  | zero =>
   intro i v σ hk hle hI
   have : i = l.length := by omega
   subst this
   obtain ⟨q, h1, h2, h3⟩ := hend v σ hI
   exact ⟨q, loop_done h1 h2, h3⟩
  | succ k ih =>
   intro i v σ hk hle hI
   by_cases hi : i < l.length
   ·obtain ⟨v', σ', h1, h2⟩ := hstep i _ v σ (List.getElem?_eq_getElem hi) hI
    obtain ⟨q, hq, hQ⟩ := ih (i + 1) v' σ' (by omega) (by omega) h2
    exact ⟨q, loop_step h1 hq, hQ⟩
   ·have : i = l.length := by omega
    subst this
    obtain ⟨q, h1, h2, h3⟩ := hend v σ hI
    exact ⟨q, loop_done h1 h2, h3⟩
 obtain ⟨q, ⟨n, hn⟩, hQ⟩ := key _ 0 v0 σ (Nat.le_refl _) (Nat.zero_le _) h0
 exact ⟨q, loop_of_iter hn, hQ⟩
theorem loop_k {β : Type} {f : List AV → Heap → Option LS} {K : LS → Option β} {v0 : List AV} {σ : Heap} {P : β → Prop} {Q : LS → Prop} (h : ∃ q, A.loop f v0 σ = some q ∧ Q q) (k : ∀ q, Q q → ∃ b, K q = some b ∧ P b) : ∃ b, (A.loop f v0 σ).bind K = some b ∧ P b := by
 obtain ⟨q, h1, h2⟩ := h
 obtain ⟨b, h3, h4⟩ := k q h2
 exact ⟨b, by rw [h1]; exact h3, h4⟩
section
variable {α : Type} {c : α → List AV} {sz : Nat} {B : Blk → Prop} {σ0 σ : Heap} {R : HP} {v : AV} {l : List α}
theorem slf_at (H : Hs B σ0 σ (Sl (fl c) sz v l * R)) {i : Nat} {x : α} (hx : l[i]? = some x) : ∃ p, A.iaddr sz v (.int .i64 (i : Int)) = some p ∧ A.deref p σ = some (c x) := by
 have hi := (List.getElem?_eq_some_iff.1 hx).1
 rcases slf_cases H with ⟨rfl, _, _⟩ | ⟨id, g, rfl, K⟩
 ·simp at hx
 ·obtain ⟨h1, h2⟩ := hs_get K
  have hi' : ((i : Int) < (l.length : Int)) := by omega
  exact ⟨.oe id g i 0, by simp [A.iaddr, A.idx, hi'], by simp [A.deref, h2, hx]⟩
theorem clo_gen {most : Nat} {m r : List AV → Heap → Option (AV × Heap)} {r0 : AV → Heap → Option (AV × Heap)} (hm : m = A.cloneZ (A.wrap true [(.s sz)] .k (A.ar1 r0))) (hr : ∀ a σ, r0 a σ = (A.eqN a .nsl).bind fun x1 => A.cond x1 (some (.nsl, σ)) ((A.append sz most .ez a σ).bind fun r2 => some (r2.1, r2.2)))
  (hl : l.length ≤ most) (hB : ∀ g g' seg, (seg = [] ∨ B (.arr g sz seg)) → B (.arr g' sz (seg ++ l.map c))) (H : Hs B σ0 σ R) : ∃ v σ', m [sl sz c l] σ = some (v, σ') ∧ A.cell v = some v ∧ Hs B σ0 σ' (Sl (fl c) sz v l * R) := by
 subst hm
 cases l with
 | nil => exact ⟨.ez, σ, rfl, rfl, slz H (.inr rfl)⟩
 | cons x l =>
  obtain ⟨v', σ', e1, H2⟩ := sl_app (B := B) (E := fl c) (sz := sz) (v := .ez) (l := []) (ys := (x :: l).map c) (xs := x :: l) (most := most) (slz (els_fl.2 ⟨rfl, H⟩) (.inr rfl)) (by simpa using hl) hB
  have hv : A.cell v' = some v' := by
   rcases slf_cases H2 with ⟨h, _, _⟩ | ⟨id, g, rfl, _⟩
   ·cases h
   ·rfl
  refine ⟨v', σ', ?_, hv, H2⟩
  show A.wrap true [(.s sz)] .k (A.ar1 r0) [sl sz c (x :: l)] σ = _
  refine wrap_eq rfl ?_ rfl
  show r0 (sl sz c (x :: l)) σ = _
  rw [hr, show A.eqN (sl sz c (x :: l)) .nsl = some (.bool false) from rfl, Option.bind_some, cnd_f, show sl sz c (x :: l) = .sl sz ((x :: l).map c) from rfl, e1]
  rfl
end
section
variable {σ0 σ : Heap} {R : HP}
theorem cloM {l : List MoveD} (hl : l.length ≤ 2199023255552) (H : Hs anyB σ0 σ R) : ∃ v σ', m_slices_Clone_api_Move [sl 8 cMove l] σ = some (v, σ') ∧ A.cell v = some v ∧ Hs anyB σ0 σ' (Sl (fl cMove) 8 v l * R) :=
 clo_gen (most := 140737488355328 / 64) (r := fun _ _ => none) rfl (fun _ _ => rfl) (by simpa using hl) (fun _ _ _ _ => trivial) H
theorem cloP {l : List PointD} (hl : l.length ≤ 8796093022208) (H : Hs anyB σ0 σ R) : ∃ v σ', m_slices_Clone_api_Point [sl 2 cPoint l] σ = some (v, σ') ∧ A.cell v = some v ∧ Hs anyB σ0 σ' (Sl (fl cPoint) 2 v l * R) :=
 clo_gen (most := 140737488355328 / 16) (r := fun _ _ => none) rfl (fun _ _ => rfl) (by simpa using hl) (fun _ _ _ _ => trivial) H
theorem cloC {l : List CueD} (hl : l.length ≤ 1099511627776) (H : Hs anyB σ0 σ R) : ∃ v σ', m_slices_Clone_api_Cue [sl 11 cCue l] σ = some (v, σ') ∧ A.cell v = some v ∧ Hs anyB σ0 σ' (Sl (fl cCue) 11 v l * R) :=
 clo_gen (most := 140737488355328 / 128) (r := fun _ _ => none) rfl (fun _ _ => rfl) (by simpa using hl) (fun _ _ _ _ => trivial) H
def putM (l : List MoveD) (m : MoveD) : List MoveD := if hasM l m.key = true then l.set (posM l m.key) m else l.take (posM l m.key) ++ [m] ++ l.drop (posM l m.key)
theorem hasM_lt {l : List MoveD} (hs : srtM l) {k : KeyD} (h : hasM l k = true) : ∃ x, l[posM l k]? = some x := by
 rw [← posM_has hs] at h
 cases hx : l[posM l k]? with
 | none => rw [hx] at h; cases h
 | some x => exact ⟨x, rfl⟩
theorem insM {v : AV} {l : List MoveD} {m : MoveD} {i : Nat} (hi : i ≤ l.length) (hl : l.length < 2199023255552) (H : Hs anyB σ0 σ (Sl (fl cMove) 8 v l * R)) :
  ∃ v' σ', m_slices_Insert_api_Move [v, .int .i64 (i : Int), .sl 8 [cMove m]] σ = some (v', σ') ∧ A.cell v' = some v' ∧ Hs anyB σ0 σ' (Sl (fl cMove) 8 v' (l.take i ++ [m] ++ l.drop i) * R) := by
 obtain ⟨v', σ', e, H2⟩ := sl_ins (most := 140737488355328 / 64) (zs := [(AV.int .i64 0), (AV.str ⟨#[]⟩), (AV.int .i64 0), (AV.int .i64 0), (AV.bool false), (AV.bool false), (AV.int .i64 0), (AV.int .i64 0)]) (rot := m_slices_rotateRight_api_Move) (B := anyB) (E := fl cMove) (y := m) (ye := cMove m)
  (hs_eq (show pr (cMove m = cMove m) * (Sl (fl cMove) 8 v l * R) = _ by rw [show fl cMove (cMove m) m = pr (cMove m = cMove m) from rfl]; ac_rfl) (hs_pr.2 ⟨rfl, H⟩)) hi (by omega) (by omega) (fun _ _ _ _ _ => trivial)
 have hv : A.cell v' = some v' := by
  rcases slf_cases H2 with ⟨h, _, _⟩ | ⟨id, g, rfl, _⟩
  ·simp at h
  ·rfl
 refine ⟨v', σ', ?_, hv, H2⟩
 unfold m_slices_Insert_api_Move A.wrap
 rw [Bool.false_and, cond_false, show A.nnL [] [v, .int .i64 (i : Int), .sl 8 [cMove m]] = [v, .int .i64 (i : Int), .sl 8 [cMove m]] by simp [A.nnL]]
 show (r_slices_Insert_api_Move v (.int .i64 (i : Int)) (.sl 8 [cMove m]) σ).map _ = _
 rw [show r_slices_Insert_api_Move v (.int .i64 (i : Int)) (.sl 8 [cMove m]) σ = some (v', σ') from e]
 simp [nn_k]
theorem cell_sl {α : Type} {E : List AV → α → HP} {sz : Nat} {B : Blk → Prop} {v : AV} {l : List α} (H : Hs B σ0 σ (Sl E sz v l * R)) : A.cell v = some v := by
 rcases sl_cases H with ⟨_, rfl | rfl, _⟩ | ⟨id, g, seg, rfl, _⟩ <;> rfl
theorem row_move (m : MoveD) : (((A.cells 8 (.agg (cMove m))).bind fun c22 => (A.splice 0 c22 [(AV.int .i64 0), (AV.str ⟨#[]⟩), (AV.int .i64 0), (AV.int .i64 0), (AV.bool false), (AV.bool false), (AV.int .i64 0), (AV.int .i64 0)]).bind fun c23 => some c23).bind fun cs => some (AV.sl 8 (chunks 8 1 cs))) = some (.sl 8 [cMove m]) := rfl
theorem setM {v : AV} {l : List MoveD} {m : MoveD} {i : Nat} {x : MoveD} (hx : l[i]? = some x) (H : Hs anyB σ0 σ (Sl (fl cMove) 8 v l * R)) :
  ∃ p σ', A.iaddr 8 v (.int .i64 (i : Int)) = some p ∧ A.storeAt p (cMove m) σ = some σ' ∧ Hs anyB σ0 σ' (Sl (fl cMove) 8 v (l.set i m) * R) := by
 obtain ⟨p, F, e, h1, hC, K, back⟩ := sl_cell H hx
 have he : e = cMove x := (hs_pr.1 (hs_drop K)).1
 subst he
 have K2 := hs_drop (hs_eq (show _ = pr (cMove x = cMove x) * (F (cMove x) * R) by rw [show fl cMove (cMove x) x = pr (cMove x = cMove x) from rfl]; ac_rfl) K)
 obtain ⟨σ', h2, K3⟩ := hC.st K2 (sp_cMove m (cMove x) rfl)
 refine ⟨p, σ', h1, h2, back (e := cMove m) (hs_eq (show pr (cMove m = cMove m) * (F (cMove m) * R) = _ by rw [show fl cMove (cMove m) m = pr (cMove m = cMove m) from rfl]; ac_rfl) (hs_pr.2 ⟨rfl, K3⟩))⟩
theorem faddr_at {p : AV} {F : List AV → HP} (hC : Cl p F) {e : List AV} (o : Nat) (H : Hs anyB σ0 σ (F e * R)) {vm : AV} (h1 : A.part1 0 (e.drop o) = some vm) : ∃ q, A.faddr o p = some q ∧ ((A.deref q σ).bind fun c => A.part1 0 c) = some vm := by
 obtain ⟨q, a1, a2, _⟩ := hC.fa o
 exact ⟨q, a1, by rw [a2 H, Option.bind_some, h1]⟩
theorem moveAt_own {e : List AV} {x : CueD} (H : Hs anyB σ0 σ (CueF e x * R)) (hs : srtM x.moves) (hl : x.moves.length < 4611686018427387904) (k : KeyD) : m_cue_moveAt [.agg e, .agg (cKey k)] σ = some (.tup [.int .i64 (posM x.moves k : Int), .bool (hasM x.moves k)], σ) :=
 lent (ain := [.a shCue]) (ts := [.agg (cCue x), .agg (cKey k)]) ⟨lt_cueF H, lt_fz (fz_agg (fz_cKey k)) rfl, trivial⟩ (fun σ => moveAt_t hs hl k σ) rfl
theorem put_s {p : AV} {F : List AV → HP} {e : List AV} {x : CueD} {m : MoveD} (hC : Cl p F) (H : Hs anyB σ0 σ (F e * (CueE e x * R))) (hs : srtM x.moves) (hl : x.moves.length < 2199023255552) :
  ∃ σ' e', m_cue_put [p, .agg (cMove m)] σ = some (.tup [], σ') ∧ Hs anyB σ0 σ' (F e' * (CueE e' { x with moves := putM x.moves m } * R)) := by
 obtain ⟨vp, vm, he, K⟩ := cueP (hs_eq (show _ = CueP (Sl (fl cMove) 8) e x * (F e * R) from by rw [show CueE e x = CueP (Sl (fl cMove) 8) e x from rfl]; ac_rfl) H)
 have hat := moveAt_own (cue_weak (hs_eq (show _ = CueE e x * (F e * R) by ac_rfl) H)) hs (by omega) m.key
 have hld := hC.ld H
 have hmv : Hs anyB σ0 σ (Sl (fl cMove) 8 vm x.moves * (F e * (Sf cPoint 2 vp x.curve.points * R))) := hs_eq (by ac_rfl) K
 have mk : ∀ {σ : Heap} {vm' : AV} {l : List MoveD}, Hs anyB σ0 σ (F (cCueH x vp vm') * (Sl (fl cMove) 8 vm' l * (Sf cPoint 2 vp x.curve.points * R))) → Hs anyB σ0 σ (F (cCueH x vp vm') * (CueE (cCueH x vp vm') { x with moves := l } * R)) := by
  intro σ vm' l K
  have := cueP_of (M := Sl (fl cMove) 8) (x := { x with moves := l }) (e := cCueH x vp vm') (vp := vp) (vm := vm') (R := F (cCueH x vp vm') * R) (B := anyB) (σ0 := σ0) (σ := σ) rfl (hs_eq (by ac_rfl) K)
  exact hs_eq (by rw [show CueE (cCueH x vp vm') { x with moves := l } = CueP (Sl (fl cMove) 8) (cCueH x vp vm') { x with moves := l } from rfl]; ac_rfl) this
 have run : ∃ σ' e', r_cue_put p (.agg (cMove m)) σ = some (.tup [], σ') ∧ Hs anyB σ0 σ' (F e' * (CueE e' { x with moves := putM x.moves m } * R)) := by
  subst he
  unfold r_cue_put
  rw [ce_cMove, Option.bind_some, hC.nc, Option.bind_some, hld, Option.bind_some]
  rw [show A.partA 0 11 (cCueH x vp vm) = some (.agg (cCueH x vp vm)) from rfl, Option.bind_some, pA_cMove_key, Option.bind_some, quiet_of hat, Option.bind_some]
  show ∃ σ' e', A.cond (.bool (hasM x.moves m.key)) _ _ = _ ∧ _
  obtain ⟨q, f1, f2⟩ := faddr_at hC 10 H (vm := vm) (by
   have := cell_sl hmv
   simp only [cCueH, List.drop_succ_cons, List.drop_zero, A.part1, List.getElem?_cons_zero, Option.bind_some]
   exact this)
  cases hh : hasM x.moves m.key
  ·rw [cnd_f]
   rw [Option.bind_some, f1, Option.bind_some, f2, Option.bind_some, pA_cMove, Option.bind_some, row_move, Option.bind_some]
   obtain ⟨v', σ1, e1, e2, H1⟩ := insM (m := m) (posM_le x.moves m.key) hl hmv
   rw [e1, Option.bind_some, Option.bind_some]
   simp only
   rw [f1, Option.bind_some, e2, Option.bind_some, Option.bind_some]
   obtain ⟨q', g1, _, g3⟩ := hC.fa 10
   rw [f1] at g1; injection g1 with g1; subst g1
   obtain ⟨σ2, e3, H2⟩ := g3 (hs_eq (show _ = F (cCueH x vp vm) * (Sl (fl cMove) 8 v' (x.moves.take (posM x.moves m.key) ++ [m] ++ x.moves.drop (posM x.moves m.key)) * (Sf cPoint 2 vp x.curve.points * R)) by ac_rfl) H1) (new := [v']) (e' := cCueH x vp v') rfl
   rw [e3, Option.bind_some]
   refine ⟨σ2, cCueH x vp v', rfl, ?_⟩
   rw [putM, if_neg (by rw [hh]; decide)]
   exact mk H2
  ·rw [cnd_t]
   obtain ⟨y, hy⟩ := hasM_lt hs hh
   obtain ⟨pp, σ1, e1, e2, H1⟩ := setM (m := m) hy hmv
   rw [Option.bind_some, f1, Option.bind_some, f2, Option.bind_some, pA_cMove, Option.bind_some, e1, Option.bind_some, ce_cMove, Option.bind_some, e2, Option.bind_some]
   refine ⟨σ1, cCueH x vp vm, rfl, ?_⟩
   rw [putM, if_pos hh]
   exact mk (hs_eq (by ac_rfl) H1)
 obtain ⟨σ', e', h1, h2⟩ := run
 refine ⟨σ', e', ?_, h2⟩
 unfold m_cue_put A.wrap
 rw [Bool.false_and, cond_false, show A.nnL [] [p, .agg (cMove m)] = [p, .agg (cMove m)] by simp [A.nnL]]
 show (r_cue_put p (.agg (cMove m)) σ).map _ = _
 rw [h1]
 simp [nn_k]
end
end Go.Proofs.YtphgchakmkankaaGreat

namespace Go.Proofs.YtphgchakmkankaaGreat
set_option linter.unusedSectionVars false
set_option linter.unusedVariables false
set_option linter.unusedSimpArgs false
open HP
section
variable {σ0 σ : Heap} {R : HP}
def Small (l : List CueD) : Prop := l.length ≤ 1099511627776 ∧ ∀ c ∈ l, c.moves.length ≤ 2199023255552 ∧ c.curve.points.length ≤ 8796093022208
theorem row_cueH (x : CueD) (vp vm : AV) : (((A.cells 11 (.agg (cCueH x vp vm))).bind fun c20 => (A.splice 0 c20 [(AV.int .i64 0), (AV.str ⟨#[]⟩), (AV.int .i64 0), (AV.int .i64 0), (AV.int .i64 0), (AV.int .i64 0), (AV.int .i64 0), AV.nsl, (AV.bool false), (AV.int .i64 0), AV.nsl]).bind fun c21 => some c21).bind fun cs => some (AV.sl 11 (chunks 11 1 cs))) = some (.sl 11 [cCueH x vp vm]) := rfl
theorem part_cell {v : AV} (h : A.cell v = some v) (cs : List AV) (i : Nat) (hi : cs[i]? = some v) : A.part1 i cs = some v := by
 simp [A.part1, hi, h]
theorem copied_s {l : List CueD} (hl : Small l) (hx : l.length ≤ mxl) (H : Hs anyB σ0 σ R) : ∃ v σ', m_cue_copied [sl 11 cCue l] σ = some (v, σ') ∧ Hs anyB σ0 σ' (Sl CueE 11 v l * R) := by
 have run : ∃ b : AV × Heap, r_cue_copied (sl 11 cCue l) σ = some b ∧ Hs anyB σ0 b.2 (Sl CueE 11 b.1 l * R) := by
  unfold r_cue_copied
  rw [lenS_sl, Option.bind_some]
  refine loop_k (Q := fun q => ∃ v w, q.1 = .exit 0 ∧ q.2.1 = [v, w] ∧ Hs anyB σ0 q.2.2 (Sl CueE 11 v l * R)) (loop_hs l (fun i v s => ∃ h, v = [h, .int .i64 (i : Int)] ∧ Hs anyB σ0 s (Sl CueE 11 h (l.take i) * R)) ?_ ?_ ⟨.nsl, rfl, slz H (.inl rfl)⟩) ?_
  ·rintro i x v s hx1 ⟨h, rfl, K⟩
   obtain ⟨hm, hp⟩ := hl.2 x (List.mem_of_getElem? hx1)
   have hi := (List.getElem?_eq_some_iff.1 hx1).1
   simp only [List.getD_cons_succ, List.getD_cons_zero]
   rw [ix_lt hx1, Option.bind_some, cnd_t, ix_for hx1, Option.bind_some]
   simp only [A.deref, Option.bind_some]
   rw [pA_cCue, Option.bind_some, ce_cCue, Option.bind_some, sp_cCue _ _ rfl, Option.bind_some, show A.part1 7 (cCue x) = some (sl 2 cPoint x.curve.points) from rfl, Option.bind_some]
   obtain ⟨vp, s1, e1, e2, K1⟩ := cloP hp K
   rw [e1, Option.bind_some, e2, Option.bind_some, Option.bind_some, show A.splice 7 [vp] (cCue x) = some (cCueH x vp (sl 8 cMove x.moves)) from rfl, Option.bind_some, show A.part1 10 (cCueH x vp (sl 8 cMove x.moves)) = some (sl 8 cMove x.moves) from rfl, Option.bind_some]
   obtain ⟨vm, s2, e3, e4, K2⟩ := cloM hm K1
   rw [e3, Option.bind_some, e4, Option.bind_some, Option.bind_some, show A.splice 10 [vm] (cCueH x vp (sl 8 cMove x.moves)) = some (cCueH x vp vm) from rfl, Option.bind_some, show A.partA 0 11 (cCueH x vp vm) = some (.agg (cCueH x vp vm)) from rfl, Option.bind_some, row_cueH, Option.bind_some]
   have K3 := cueP_of (M := Sl (fl cMove) 8) (x := x) (e := cCueH x vp vm) rfl (hs_eq (show _ = Sf cPoint 2 vp x.curve.points * (Sl (fl cMove) 8 vm x.moves * (Sl CueE 11 h (l.take i) * R)) by ac_rfl) (sf_own (hs_eq (show _ = Sl (fl cPoint) 2 vp x.curve.points * (Sl (fl cMove) 8 vm x.moves * (Sl CueE 11 h (l.take i) * R)) by ac_rfl) K2)))
   have K4 := hs_eq (show _ = Sl CueE 11 h (l.take i) * (els CueE [cCueH x vp vm] [x] * R) by rw [els_one, show CueE (cCueH x vp vm) x = CueP (Sl (fl cMove) 8) (cCueH x vp vm) x from rfl]; ac_rfl) K3
   have hm2 := hl.1
   obtain ⟨h', s3, e5, K5⟩ := sl_app (most := 140737488355328 / 128) K4 (by simp; omega) (fun _ _ _ _ => trivial)
   rw [e5, Option.bind_some, ix_inc hx1 hx, Option.bind_some]
   refine ⟨_, _, rfl, h', rfl, ?_⟩
   rw [List.take_add_one, hx1]
   exact K5
  ·rintro v s ⟨h, rfl, K⟩
   simp only [List.getD_cons_succ, List.getD_cons_zero]
   rw [ix_end, Option.bind_some, cnd_f]
   refine ⟨_, rfl, by simp, h, _, rfl, rfl, ?_⟩
   rw [List.take_length] at K; exact K
  ·rintro ⟨e, v, s⟩ ⟨h, w, h1, h2, K⟩
   simp only at h1 h2 K
   subst h1; subst h2
   exact ⟨_, rfl, K⟩
 obtain ⟨⟨v, σ'⟩, h1, h2⟩ := run
 refine ⟨v, σ', wrap_eq rfl ?_ rfl, h2⟩
 rw [show A.nnL [Sh.e 11 [.k, .k, .k, .k, .k, .k, .k, .s 2, .k, .k, .s 8]] [sl 11 cCue l] = [sl 11 cCue l] from nn_t1 (nn_e (fun _ => rfl) _) rfl]
 exact h1
theorem elsF_part {B : Blk → Prop} {seg : List (List AV)} {l : List CueD} {R : HP} (H : Hs B σ0 σ (els CueF seg l * R)) (hl : seg.length = l.length) (lo n : Nat) : Hs B σ0 σ (els CueF ((seg.drop lo).take n) ((l.drop lo).take n) * (els CueF (seg.take lo) (l.take lo) * (els CueF ((seg.drop lo).drop n) ((l.drop lo).drop n) * R))) := by
 refine hs_eq ?_ H
 have e1 : els CueF seg l = els CueF (seg.take lo) (l.take lo) * els CueF (seg.drop lo) (l.drop lo) := by
  rw [← els_app (by simp; omega), List.take_append_drop, List.take_append_drop]
 have e2 : els CueF (seg.drop lo) (l.drop lo) = els CueF ((seg.drop lo).take n) ((l.drop lo).take n) * els CueF ((seg.drop lo).drop n) ((l.drop lo).drop n) := by
  rw [← els_app (by simp; omega), List.take_append_drop, List.take_append_drop]
 rw [e1, e2]
 ac_rfl
theorem lt_part {v : AV} {l : List CueD} {lo hi : Nat} (H : Hs anyB σ0 σ (Sl CueE 11 v l * R)) (h1 : lo ≤ hi) (h2 : hi ≤ l.length) : ∃ v', A.sliceS 11 v (some (.int .i64 (lo : Int))) (some (.int .i64 (hi : Int))) σ = some v' ∧ Lt σ (.e 11 shCue) v' (sl 11 cCue ((l.drop lo).take (hi - lo))) := by
 rcases sl_cases (cues_weak H) with ⟨rfl, hv, _⟩ | ⟨id, g, seg, rfl, hl, K⟩
 ·have hz : hi = 0 := by simpa using h2
  have hz2 : lo = 0 := by omega
  subst hz; subst hz2
  rcases hv with rfl | rfl
  ·exact ⟨.nsl, by simp [A.sliceS, bnd_s (y := 0) (k := 0) (Nat.le_refl 0)]; rfl, lt_cues H⟩
  ·exact ⟨.ez, by simp [A.sliceS, bnd_s (y := 0) (k := 0) (Nat.le_refl 0)]; rfl, lt_cues H⟩
 ·obtain ⟨k1, k2⟩ := hs_get K
  refine ⟨_, slo (room_arr k2 (by omega)) (bnd_s (k := hi) (by omega)) (bnd_s (k := lo) h1), ?_⟩
  have K2 := elsF_part (hs_eq (show _ = els CueF seg l * (blk id (.arr g 11 seg) * R) by ac_rfl) K) hl lo (hi - lo)
  obtain ⟨seg', e1, e2⟩ := elsF_fz K2 (Nat.zero_le _) 6
  refine ⟨⟨.sl 11 seg', ?_, rfl, ?_⟩, rfl, fun ho => by cases ho⟩
  ·simp only [A.frz, Nat.not_lt_zero, if_false, k2]
   rw [if_pos (by simp; omega), Nat.zero_add, frzLL_eq, e1]
   rfl
  ·rw [nn_idem_cues]; simp only [A.nn, e2]; rfl
theorem moved_own {v v' : AV} {l : List CueD} {lo hi : Nat} (H : Hs anyB σ0 σ (Sl CueE 11 v l * R)) (h1 : lo ≤ hi) (h2 : hi ≤ l.length) (hl : l.length ≤ mxl) (hm : ∀ c ∈ l, srtM c.moves ∧ c.moves.length < 4611686018427387904) (k : KeyD) :
  ∃ v', A.sliceS 11 v (some (.int .i64 (lo : Int))) (some (.int .i64 (hi : Int))) σ = some v' ∧ m_cue_moved [v', .agg (cKey k)] σ = some (.bool (((l.drop lo).take (hi - lo)).any fun c => hasM c.moves k), σ) := by
 obtain ⟨v', e1, e2⟩ := lt_part H h1 h2
 refine ⟨v', e1, ?_⟩
 exact lent (ain := [.e 11 shCue]) (ts := [sl 11 cCue ((l.drop lo).take (hi - lo)), .agg (cKey k)]) ⟨e2, lt_fz (fz_agg (fz_cKey k)) rfl, trivial⟩
  (fun σ => moved_t (by simp; omega) (fun c hc => hm c (List.mem_of_mem_drop (List.mem_of_mem_take hc))) k σ) rfl
theorem blocked_own {v : AV} {l : List CueD} (H : Hs anyB σ0 σ (Sl CueE 11 v l * R)) (hl : l.length < 4611686018427387904) (i : Nat) : m_cue_blocked [v, .int .i64 (i : Int)] σ = some (.int .i64 (match blkF l i with | some j => (j : Int) | none => -1), σ) :=
 lent (ain := [.e 11 shCue]) (ts := [sl 11 cCue l, .int .i64 (i : Int)]) ⟨lt_cues H, lt_int _, trivial⟩ (fun σ => h_cue_blocked (blocked_t hl i)) rfl
theorem delC {v : AV} {l : List CueD} {i : Nat} {x : CueD} (hx : l[i]? = some x) (hl : l.length ≤ 1099511627776) (H : Hs anyB σ0 σ (Sl CueE 11 v l * R)) :
  ∃ v' σ' xe, (∃ p, A.iaddr 11 v (.int .i64 (i : Int)) = some p ∧ A.deref p σ = some xe) ∧ m_slices_Delete_api_Cue [v, .int .i64 (i : Int), .int .i64 ((i + 1 : Nat) : Int)] σ = some (v', σ') ∧ Hs anyB σ0 σ' (Sl CueE 11 v' (l.eraseIdx i) * (CueE xe x * R)) := by
 obtain ⟨v', σ', xe, e0, e, H2⟩ := sl_del (most := 140737488355328 / 128) (zs := [(AV.int .i64 0), (AV.str ⟨#[]⟩), (AV.int .i64 0), (AV.int .i64 0), (AV.int .i64 0), (AV.int .i64 0), (AV.int .i64 0), AV.nsl, (AV.bool false), (AV.int .i64 0), AV.nsl]) H hx (by omega) (by omega) (fun _ _ _ _ _ => trivial)
 refine ⟨v', σ', xe, e0, ?_, H2⟩
 unfold m_slices_Delete_api_Cue A.wrap
 rw [Bool.false_and, cond_false, show A.nnL [] [v, .int .i64 (i : Int), .int .i64 ((i + 1 : Nat) : Int)] = [v, .int .i64 (i : Int), .int .i64 ((i + 1 : Nat) : Int)] by simp [A.nnL]]
 show (r_slices_Delete_api_Cue v (.int .i64 (i : Int)) (.int .i64 ((i + 1 : Nat) : Int)) σ).map _ = _
 rw [show r_slices_Delete_api_Cue v (.int .i64 (i : Int)) (.int .i64 ((i + 1 : Nat) : Int)) σ = some (v', σ') from e]
 simp [nn_k]
theorem fin_hs {v v' : AV} (H : Hs anyB σ0 σ R) (h : A.frz σ σ0.length 8 v = some v') (hv : σ = σ0 → v' = v) : A.fin σ0 v σ = some (v', σ0) := by
 obtain ⟨⟨bs, rfl, _⟩, _⟩ := H
 by_cases hbs : bs = []
 ·subst hbs
  rw [List.append_nil] at h ⊢
  rw [fin_same, hv (by simp)]
 ·unfold A.fin
  rw [if_neg (by simpa using hbs), if_pos (by simp), h]; rfl
theorem fin_cues {v : AV} {l : List CueD} (H : Hs anyB σ0 σ (Sl CueF 11 v l * R)) : ∃ v', A.fin σ0 v σ = some (v', σ0) ∧ A.nn (.e 11 shCue) v' = sl 11 cCue l := by
 obtain ⟨v', h1, h2, h3⟩ := cuesF_fz H (Nat.le_refl _) 6
 refine ⟨v', fin_hs H h1 (fun e => ?_), h3⟩
 rcases sl_cases H with ⟨rfl, rfl | rfl, _⟩ | ⟨id, g, seg, rfl, hl, K⟩
 ·simp [A.frz] at h1; exact h1.symm
 ·simp [A.frz] at h1; exact h1.symm
 ·obtain ⟨k1, k2⟩ := hs_get K
  have := (List.getElem?_eq_some_iff.1 k2).1
  subst e; omega
end
end Go.Proofs.YtphgchakmkankaaGreat

namespace Go.Proofs.YtphgchakmkankaaGreat
set_option linter.unusedSectionVars false
set_option linter.unusedVariables false
set_option linter.unusedSimpArgs false
open HP
theorem small_of {l : List CueD} (h : Good l) : Small l := ⟨by have := h.len; omega, fun c hc => ⟨by have := (h.mv c hc).1; omega, by have := h.pts c hc; omega⟩⟩
theorem srt_put {l : List MoveD} (h : srtM l) (m : MoveD) : srtM (putM l m) := by
 unfold putM
 have hlt : ∀ x ∈ l.take (posM l m.key), ltK x.key m.key = true := fun x hx => by
  obtain ⟨i, hi⟩ := List.mem_iff_getElem?.1 hx
  rw [List.getElem?_take] at hi
  split at hi
  ·rename_i hlt; exact (posM_lt h hi).2 hlt
  ·cases hi
 have hge : ∀ x ∈ l.drop (posM l m.key), ltK x.key m.key = false := fun x hx => by
  obtain ⟨i, hi⟩ := List.mem_iff_getElem?.1 hx
  rw [List.getElem?_drop] at hi
  cases hq : ltK x.key m.key
  ·rfl
  ·have := (posM_lt h hi).1 hq; omega
 split
 ·rename_i hh
  obtain ⟨y, hy⟩ := hasM_lt h hh
  have hk : y.key = m.key := by
   have := posM_has (k := m.key) h
   rw [hh, hy] at this
   simpa using this
  unfold srtM at h ⊢
  rw [List.pairwise_iff_getElem] at h ⊢
  intro i j hi hj hij
  simp only [List.length_set] at hi hj
  have hp := (List.getElem?_eq_some_iff.1 hy).1
  have key : ∀ k (hk' : k < l.length), ((l.set (posM l m.key) m)[k]'(by simpa using hk')).key = l[k].key := by
   intro k hk'
   rw [List.getElem_set]
   split
   ·rename_i e; subst e; exact hk.symm.trans (congrArg MoveD.key (List.getElem?_eq_some_iff.1 hy).2.symm)
   ·rfl
  rw [key i hi, key j hj]
  exact h i j hi hj hij
 ·rename_i hh
  unfold srtM at h ⊢
  rw [List.append_assoc, List.pairwise_append]
  refine ⟨h.sublist (List.take_sublist _ _), ?_, fun x hx y hy => ?_⟩
  ·rw [List.singleton_append, List.pairwise_cons]
   refine ⟨fun y hy => ?_, h.sublist (List.drop_sublist _ _)⟩
   cases hq : ltK m.key y.key
   ·exfalso
    have e := ltK_tri hq (hge y hy)
    exact hh (List.any_eq_true.2 ⟨y, List.mem_of_mem_drop hy, by simp [e]⟩)
   ·rfl
  ·rcases List.mem_append.1 hy with hy | hy
   ·simp at hy; subst hy; exact hlt x hx
   ·have e : l.take (posM l m.key) ++ l.drop (posM l m.key) = l := List.take_append_drop _ _
    rw [← e, List.pairwise_append] at h
    exact h.2.2 x hx y hy
theorem put_len (l : List MoveD) (m : MoveD) : (putM l m).length ≤ l.length + 1 := by
 unfold putM
 split
 ·simp
 ·simp; omega
theorem has_put {l : List MoveD} (hs : srtM l) (m : MoveD) (k : KeyD) : hasM (putM l m) k = (hasM l k || decide (m.key = k)) := by
 rw [Bool.eq_iff_iff]
 simp only [Bool.or_eq_true, decide_eq_true_eq]
 unfold hasM putM
 split
 ·rename_i hh
  obtain ⟨y, hy⟩ := hasM_lt hs hh
  have hp := (List.getElem?_eq_some_iff.1 hy).1
  have hk : y.key = m.key := by
   have := posM_has (k := m.key) hs
   rw [hh, hy] at this
   simpa using this
  simp only [List.any_eq_true, decide_eq_true_eq]
  constructor
  ·rintro ⟨x, hx, e⟩
   rcases List.mem_or_eq_of_mem_set hx with hx | hx
   ·exact .inl ⟨x, hx, e⟩
   ·subst hx; exact .inr e
  ·rintro (⟨x, hx, e⟩ | e)
   ·by_cases hm : m.key = k
    ·exact ⟨m, List.mem_of_getElem? (i := posM l m.key) (by rw [List.getElem?_set_self hp]), hm⟩
    ·obtain ⟨i, hi⟩ := List.mem_iff_getElem?.1 hx
     have hne : posM l m.key ≠ i := fun e' => hm (by rw [← e', hy] at hi; injection hi with hi; rw [← hk, hi, e])
     exact ⟨x, List.mem_of_getElem? (i := i) (by rw [List.getElem?_set_ne hne, hi]), e⟩
   ·exact ⟨m, List.mem_of_getElem? (i := posM l m.key) (by rw [List.getElem?_set_self hp]), e⟩
 ·have e : l = l.take (posM l m.key) ++ l.drop (posM l m.key) := (List.take_append_drop _ _).symm
  simp only [List.any_append, List.any_cons, List.any_nil, Bool.or_eq_true, decide_eq_true_eq, Bool.or_false]
  conv => rhs; lhs; rw [e, List.any_append, Bool.or_eq_true]
  constructor
  ·rintro ((h | h) | h)
   ·exact .inl (.inl h)
   ·exact .inr h
   ·exact .inl (.inr h)
  ·rintro ((h | h) | h)
   ·exact .inl (.inl h)
   ·exact .inr h
   ·exact .inl (.inr h)
def setMv (l : List CueD) (i : Nat) (g : List MoveD → List MoveD) : List CueD := match l[i]? with
 | some c => l.set i { c with moves := g c.moves }
 | none => l
theorem setMv_len (l : List CueD) (i : Nat) (g : List MoveD → List MoveD) : (setMv l i g).length = l.length := by unfold setMv; split <;> simp
def Inv (k : Nat) (l : List CueD) : Prop := l.length ≤ 1000 ∧ ∀ c ∈ l, srtM c.moves ∧ c.moves.length ≤ 2000 + k
theorem Inv.mono {k k' : Nat} {l : List CueD} (h : Inv k l) (hk : k ≤ k') : Inv k' l := ⟨h.1, fun c hc => ⟨(h.2 c hc).1, by have := (h.2 c hc).2; omega⟩⟩
theorem Inv.setMv {k : Nat} {l : List CueD} (h : Inv k l) (i : Nat) (m : MoveD) : Inv (k + 1) (setMv l i (putM · m)) := by
 refine ⟨by rw [setMv_len]; exact h.1, fun c hc => ?_⟩
 unfold Go.Proofs.YtphgchakmkankaaGreat.setMv at hc
 split at hc
 ·rename_i x hx
  rcases List.mem_or_eq_of_mem_set hc with hc | hc
  ·exact ⟨(h.2 c hc).1, by have := (h.2 c hc).2; omega⟩
  ·subst hc
   have hx' := h.2 x (List.mem_of_getElem? hx)
   exact ⟨srt_put hx'.1 m, by have := put_len x.moves m; show (putM x.moves m).length ≤ _; omega⟩
 ·exact ⟨(h.2 c hc).1, by have := (h.2 c hc).2; omega⟩
theorem Inv.erase {k : Nat} {l : List CueD} (h : Inv k l) (i : Nat) : Inv k (l.eraseIdx i) :=
 ⟨by have := List.length_eraseIdx_le l i; have := h.1; omega, fun c hc => h.2 c (List.mem_of_mem_eraseIdx hc)⟩
theorem inv_good {l : List CueD} (h : Good l) : Inv 0 l := ⟨by have := h.len; omega, fun c hc => ⟨(h.mv c hc).2, by have := (h.mv c hc).1; omega⟩⟩
theorem Inv.small {k : Nat} {l : List CueD} (h : Inv k l) (hk : k ≤ 100000) : ∀ c ∈ l, srtM c.moves ∧ c.moves.length < 4611686018427387904 := fun c hc => ⟨(h.2 c hc).1, by have := (h.2 c hc).2; omega⟩
section
variable {σ0 σ : Heap} {R : HP}
theorem put_at {v : AV} {l : List CueD} {k i : Nat} {x : CueD} (hi : l[i]? = some x) (m : MoveD) (hI : Inv k l) (hk : k ≤ 100000) (H : Hs anyB σ0 σ (Sl CueE 11 v l * R)) :
  ∃ p σ', A.iaddr 11 v (.int .i64 (i : Int)) = some p ∧ m_cue_put [p, .agg (cMove m)] σ = some (.tup [], σ') ∧ Hs anyB σ0 σ' (Sl CueE 11 v (setMv l i (putM · m)) * R) := by
 obtain ⟨p, F, e, h1, hC, K, back⟩ := sl_cell H hi
 have hx := hI.2 x (List.mem_of_getElem? hi)
 obtain ⟨σ', e', h2, K2⟩ := put_s (m := m) hC K hx.1 (by omega)
 refine ⟨p, σ', h1, h2, ?_⟩
 rw [setMv, hi]
 exact back K2
def delStep (a nx : Nat) (out : List CueD) (m : MoveD) : List CueD := if (((out.drop a).take (nx + 1 - a)).any fun c => hasM c.moves m.key) = true then out else setMv out nx (putM · m)
def delF (l : List CueD) (a : Nat) (way : Int) : List CueD :=
 let out := l.eraseIdx a
 match (if way = 1 then blkF out a else some a) with
 | some nx => if nx < out.length then ((l[a]?.map (·.moves)).getD []).foldl (delStep a nx) out else out
 | none => out
theorem delStep_inv {k a nx : Nat} {out : List CueD} (h : Inv k out) (m : MoveD) : Inv (k + 1) (delStep a nx out m) := by
 unfold delStep
 split
 ·exact h.mono (Nat.le_succ k)
 ·exact h.setMv nx m
theorem delStep_len (a nx : Nat) (out : List CueD) (m : MoveD) : (delStep a nx out m).length = out.length := by
 unfold delStep
 split
 ·rfl
 ·exact setMv_len _ _ _
theorem foldl_take {α β : Type} (f : β → α → β) (b : β) (l : List α) {i : Nat} {x : α} (h : l[i]? = some x) : (l.take (i + 1)).foldl f b = f ((l.take i).foldl f b) x := by
 rw [List.take_add_one, h, Option.toList_some, List.foldl_append]; rfl
theorem del_fold {ms : List MoveD} {a nx : Nat} {out : List CueD} (h : Inv 0 out) : ∀ i, Inv (ms.take i).length ((ms.take i).foldl (delStep a nx) out) ∧ ((ms.take i).foldl (delStep a nx) out).length = out.length := by
 have key : ∀ (l : List MoveD) (k : Nat) (o : List CueD), Inv k o → Inv (k + l.length) (l.foldl (delStep a nx) o) ∧ (l.foldl (delStep a nx) o).length = o.length := by
  intro l
  induction l with
  | nil => intro k o ho; exact ⟨ho, rfl⟩
  | cons m l ih =>
   intro k o ho
   obtain ⟨h1, h2⟩ := ih (k + 1) (delStep a nx o m) (delStep_inv ho m)
   exact ⟨h1.mono (by simp; omega), by rw [List.foldl_cons, h2, delStep_len]⟩
 intro i
 have := key (ms.take i) 0 out h
 rwa [Nat.zero_add] at this
theorem deleted_s {l : List CueD} (hg : Good l) {a : Nat} {x : CueD} (hx : l[a]? = some x) (way : Int) (σ : Heap) : m_cue_deleted [sl 11 cCue l, .int .i64 (a : Int), .int .i64 way] σ = some (sl 11 cCue (delF l a way), σ) := by
 have hal := (List.getElem?_eq_some_iff.1 hx).1
 have hlen := hg.len
 have run : ∃ b : AV × Heap, r_cue_deleted (sl 11 cCue l) (.int .i64 (a : Int)) (.int .i64 way) σ = some b ∧ b.2 = σ ∧ A.nn (.e 11 shCue) b.1 = sl 11 cCue (delF l a way) := by
  unfold r_cue_deleted
  obtain ⟨v, s1, e1, K1⟩ := copied_s (small_of hg) (by unfold mxl; omega) (hs_nil (B := anyB) σ)
  rw [e1, Option.bind_some]
  obtain ⟨v2, s2, xe, ⟨p, e2, e3⟩, e4, K2⟩ := delC hx (by omega) K1
  obtain ⟨vp, vm, he, K3⟩ := cueP (hs_eq (show _ = CueP (Sl (fl cMove) 8) xe x * (Sl CueE 11 v2 (l.eraseIdx a) * emp) by rw [show CueE xe x = CueP (Sl (fl cMove) 8) xe x from rfl]; ac_rfl) K2)
  subst he
  simp only
  rw [e2, Option.bind_some, e3, Option.bind_some, show A.partA 0 11 (cCueH x vp vm) = some (.agg (cCueH x vp vm)) from rfl, Option.bind_some, show A.cells 11 (.agg (cCueH x vp vm)) = some (cCueH x vp vm) from rfl, Option.bind_some, show A.splice 0 (cCueH x vp vm) [(AV.int .i64 0), (AV.str ⟨#[]⟩), (AV.int .i64 0), (AV.int .i64 0), (AV.int .i64 0), (AV.int .i64 0), (AV.int .i64 0), AV.nsl, (AV.bool false), (AV.int .i64 0), AV.nsl] = some (cCueH x vp vm) from rfl, Option.bind_some, tadd1 (by omega), Option.bind_some, e4, Option.bind_some, aEq, Option.bind_some]
  obtain ⟨out, hout⟩ : ∃ out, out = l.eraseIdx a := ⟨_, rfl⟩
  have hol : out.length ≤ 300 := by rw [hout]; have := List.length_eraseIdx_le l a; omega
  have hIo : Inv 0 out := hout ▸ (inv_good hg).erase a
  rw [← hout] at K3 K2
  have K4 := hs_eq (show _ = Sl CueE 11 v2 out * (Sl (fl cMove) 8 vm x.moves * (Sf cPoint 2 vp x.curve.points * emp)) by ac_rfl) K3
  have hend : ∀ {s : Heap} {o : List CueD} {R : HP}, Hs anyB σ s (Sl CueE 11 v2 o * R) → o = delF l a way → ∃ b : AV × Heap, A.fin σ v2 s = some b ∧ b.2 = σ ∧ A.nn (.e 11 shCue) b.1 = sl 11 cCue (delF l a way) := by
   intro s o R K ho
   obtain ⟨v', f1, f2⟩ := fin_cues (cues_weak K)
   exact ⟨_, f1, rfl, by rw [← ho]; exact f2⟩
  have hloop : ∀ nx : Nat, nx < out.length → (if way = 1 then blkF out a else some a) = some nx → ∃ b : AV × Heap,
    ((A.loop (fun v22 s23 =>
     (A.lss (v22.getD 0 AV.undef) (.int .i64 (x.moves.length : Int))).bind fun x25 =>
     A.cond x25 (
      (A.iaddr 8 vm (v22.getD 0 AV.undef)).bind fun x26 =>
      ((A.deref x26 s23).bind fun c27 => A.partA 0 8 c27).bind fun x28 =>
      (A.cells 8 x28).bind fun c29 =>
      (A.splice 0 c29 [(AV.int .i64 0), (AV.str ⟨#[]⟩), (AV.int .i64 0), (AV.int .i64 0), (AV.bool false), (AV.bool false), (AV.int .i64 0), (AV.int .i64 0)]).bind fun c30 =>
      (A.add (.int .i64 (nx : Int)) (AV.int .i64 1)).bind fun x31 =>
      (A.sliceS 11 v2 (some (.int .i64 (a : Int))) (some x31) s23).bind fun x32 =>
      (A.partA 0 2 c30).bind fun x33 =>
      (A.quiet (m_cue_moved [x32, x33] s23) s23).bind fun x34 =>
      (A.not x34).bind fun x35 =>
      (A.cond x35 (
       (A.iaddr 11 v2 (.int .i64 (nx : Int))).bind fun x37 =>
       (A.partA 0 8 c30).bind fun x38 =>
       (m_cue_put [x37, x38] s23).bind fun r39 =>
       some (([] : List AV), r39.2)) (
       some (([] : List AV), s23))).bind fun r36 =>
      (A.add (v22.getD 0 AV.undef) (AV.int .i64 1)).bind fun x40 =>
      some (AX.normal, [x40], r36.2)) (
      some (AX.exit 0, [(v22.getD 0 AV.undef)], s23))) [(AV.int .i64 0)] s2).bind fun r41 =>
    bif r41.1 == AX.exit 0 then (A.fin σ v2 r41.2.2) else none) = some b ∧ b.2 = σ ∧ A.nn (.e 11 shCue) b.1 = sl 11 cCue (delF l a way) := by
   intro nx hnx hsel
   have han : a ≤ nx := by
    by_cases hw : way = 1
    ·rw [if_pos hw] at hsel
     unfold blkF at hsel
     have key : ∀ (m : List CueD) (i : Nat) j, scanL (fun j c => if c.block = true then some j else none) m i = some j → i ≤ j := by
      intro m
      induction m with
      | nil => intro i j h; cases h
      | cons y m ih =>
       intro i j h
       rw [scanL] at h
       cases hb : y.block
       ·rw [hb] at h; simp only [Bool.false_eq_true, if_false] at h
        have := ih (i + 1) j h; omega
       ·rw [hb] at h; simp only [if_true, Option.some.injEq] at h; omega
     exact key _ _ _ hsel
    ·rw [if_neg hw] at hsel; injection hsel with hsel; omega
   have hmv : x.moves.length ≤ 2000 := (hg.mv x (List.mem_of_getElem? hx)).1
   refine loop_k (Q := fun q => ∃ w, q.1 = .exit 0 ∧ q.2.1 = [w] ∧ ∃ R, Hs anyB σ q.2.2 (Sl CueE 11 v2 (x.moves.foldl (delStep a nx) out) * R)) (loop_hs x.moves (fun i v s => v = [.int .i64 (i : Int)] ∧ Hs anyB σ s (Sl CueE 11 v2 ((x.moves.take i).foldl (delStep a nx) out) * (Sl (fl cMove) 8 vm x.moves * (Sf cPoint 2 vp x.curve.points * emp)))) ?_ ?_ ⟨rfl, K4⟩) ?_
   ·rintro i m v s hm ⟨rfl, K⟩
    have hi := (List.getElem?_eq_some_iff.1 hm).1
    obtain ⟨hI, hL⟩ := del_fold (a := a) (nx := nx) (ms := x.moves) hIo i
    obtain ⟨o, ho⟩ : ∃ o, o = (x.moves.take i).foldl (delStep a nx) out := ⟨_, rfl⟩
    rw [foldl_take _ _ _ hm]
    rw [← ho] at hI hL K ⊢
    have hil : (x.moves.take i).length ≤ 2000 := by simp; omega
    obtain ⟨pm, f1, f2⟩ := slf_at (hs_drop K |> fun K => K) hm
    simp only [List.getD_cons_zero]
    rw [ix_lt hm, Option.bind_some, cnd_t, f1, Option.bind_some, f2, Option.bind_some, pA_cMove, Option.bind_some, ce_cMove, Option.bind_some, sp_cMove m _ rfl, Option.bind_some, tadd1 (by omega), Option.bind_some]
    obtain ⟨vs, f3, f4⟩ := moved_own (v' := .undef) (lo := a) (hi := nx + 1) K (by omega) (by omega) (by unfold mxl; omega) (hI.small (by omega)) m.key
    rw [f3, Option.bind_some, pA_cMove_key, Option.bind_some, quiet_of f4, Option.bind_some]
    unfold delStep
    cases hmm : (((o.drop a).take (nx + 1 - a)).any fun c => hasM c.moves m.key)
    ·rw [show A.not (.bool false) = some (.bool true) from rfl, Option.bind_some, cnd_t]
     obtain ⟨pc, s', f5, f6, K5⟩ := put_at (List.getElem?_eq_getElem (show nx < o.length by omega)) m hI (by omega) K
     rw [f5, Option.bind_some, pA_cMove, Option.bind_some, f6, Option.bind_some, Option.bind_some, tadd1 (by omega), Option.bind_some]
     exact ⟨_, _, rfl, rfl, by simpa using K5⟩
    ·rw [show A.not (.bool true) = some (.bool false) from rfl, Option.bind_some, cnd_f, Option.bind_some, tadd1 (by omega), Option.bind_some]
     exact ⟨_, _, rfl, rfl, by simpa using K⟩
   ·rintro v s ⟨rfl, K⟩
    simp only [List.getD_cons_zero]
    rw [ix_end, Option.bind_some, cnd_f]
    refine ⟨_, rfl, by simp, _, rfl, rfl, (Sl (fl cMove) 8 vm x.moves * (Sf cPoint 2 vp x.curve.points * emp)), ?_⟩
    rw [List.take_length] at K
    exact K
   ·rintro ⟨e, v, s⟩ ⟨w, h1, h2, R, K⟩
    simp only at h1 h2 K
    subst h1; subst h2
    refine hend K ?_
    unfold delF
    simp only [← hout, hsel, if_pos hnx, hx, Option.map_some, Option.getD_some]
  have hvm : A.cell vm = some vm := cell_sl (hs_drop K4)
  have hvl : A.lenS vm = some (.int .i64 (x.moves.length : Int)) := sl_len (hs_drop K4)
  have hv2 : A.lenS v2 = some (.int .i64 (out.length : Int)) := sl_len K4
  have hpart : A.part1 10 (cCueH x vp vm) = some vm := part_cell hvm _ 10 rfl
  have sel : ∀ nx : Nat, (if way = 1 then blkF out a else some a) = some nx → ∃ b : AV × Heap, ((A.lss (.int .i64 (nx : Int)) (AV.int .i64 0)).bind fun x12 =>
    (A.guard x12 false (some (.int .i64 (nx : Int))) (some (AV.tup []))).bind fun x13 =>
    (A.guard x12 false (some v2) (some (AV.tup []))).bind fun x14 =>
    (A.guard x12 false (A.lenS x14) (some (AV.tup []))).bind fun x15 =>
    (A.guard x12 false (A.geq x13 x15) (some (AV.tup []))).bind fun x16 =>
    (A.pick x12 (AV.bool true) x16).bind fun x17 =>
    A.cond x17 (
     A.fin σ v2 s2) (
     ((A.lb (.lbx (cCueH x vp vm))).bind fun _ => some (10)).bind fun p18 =>
     ((A.lb (.lbx (cCueH x vp vm))).bind fun c19 => A.part1 p18 c19).bind fun x20 =>
     (A.lenS x20).bind fun x21 =>
     (A.loop (fun v22 s23 =>
       (A.lss (v22.getD 0 AV.undef) x21).bind fun x25 =>
       A.cond x25 (
        (A.iaddr 8 x20 (v22.getD 0 AV.undef)).bind fun x26 =>
        ((A.deref x26 s23).bind fun c27 => A.partA 0 8 c27).bind fun x28 =>
        (A.cells 8 x28).bind fun c29 =>
        (A.splice 0 c29 [(AV.int .i64 0), (AV.str ⟨#[]⟩), (AV.int .i64 0), (AV.int .i64 0), (AV.bool false), (AV.bool false), (AV.int .i64 0), (AV.int .i64 0)]).bind fun c30 =>
        (A.add (.int .i64 (nx : Int)) (AV.int .i64 1)).bind fun x31 =>
        (A.sliceS 11 v2 (some (.int .i64 (a : Int))) (some x31) s23).bind fun x32 =>
        (A.partA 0 2 c30).bind fun x33 =>
        (A.quiet (m_cue_moved [x32, x33] s23) s23).bind fun x34 =>
        (A.not x34).bind fun x35 =>
        (A.cond x35 (
         (A.iaddr 11 v2 (.int .i64 (nx : Int))).bind fun x37 =>
         (A.partA 0 8 c30).bind fun x38 =>
         (m_cue_put [x37, x38] s23).bind fun r39 =>
         some (([] : List AV), r39.2)) (
         some (([] : List AV), s23))).bind fun r36 =>
        (A.add (v22.getD 0 AV.undef) (AV.int .i64 1)).bind fun x40 =>
        some (AX.normal, [x40], r36.2)) (
        some (AX.exit 0, [(v22.getD 0 AV.undef)], s23))) [(AV.int .i64 0)] s2).bind fun r41 =>
     bif r41.1 == AX.exit 0 then (A.fin σ v2 r41.2.2) else none)) = some b ∧ b.2 = σ ∧ A.nn (.e 11 shCue) b.1 = sl 11 cCue (delF l a way) := by
   intro nx hsel
   rw [tlss0, decide_eq_false (by omega), Option.bind_some]
   simp only [A.guard, beq_self_eq_true, cond_true, Option.bind_some, hv2, A.pick, cond_false]
   rw [aGeq]
   try simp only [Option.bind_some]
   by_cases hnx : nx < out.length
   ·rw [decide_eq_false (by omega), cnd_f]
    simp only [A.lb, Option.bind_some, hpart, hvl]
    exact hloop nx hnx hsel
   ·rw [decide_eq_true (by omega), cnd_t]
    refine hend K4 ?_
    unfold delF
    simp only [← hout, hsel, if_neg hnx]
  by_cases hw : way = 1
  ·rw [decide_eq_true hw, cnd_t, blocked_own K4 (by omega) a, Option.bind_some, Option.bind_some]
   simp only [List.getD_cons_succ, List.getD_cons_zero]
   cases hb : blkF out a with
   | none =>
    simp only [show A.lss (.int .i64 (-1)) (.int .i64 0) = some (.bool true) from rfl, Option.bind_some, A.guard, show (true == false) = false from rfl, cond_false, A.pick, cond_true, cnd_t]
    refine hend K4 ?_
    unfold delF
    simp only [← hout, if_pos hw, hb]
   | some nx => exact sel nx (by rw [if_pos hw, hb])
  ·rw [decide_eq_false hw, cnd_f, Option.bind_some]
   simp only [List.getD_cons_succ, List.getD_cons_zero]
   exact sel a (by rw [if_neg hw])
 obtain ⟨⟨v', σ'⟩, h1, h2, h3⟩ := run
 simp only at h2 h3
 subst h2
 refine wrap_eq rfl ?_ h3
 rw [show A.nnL [Sh.e 11 [.k, .k, .k, .k, .k, .k, .k, .s 2, .k, .k, .s 8]] [sl 11 cCue l, .int .i64 (a : Int), .int .i64 way] = [sl 11 cCue l, .int .i64 (a : Int), .int .i64 way] from nn_t1 (nn_e (fun _ => rfl) _) rfl]
 exact h1
end
end Go.Proofs.YtphgchakmkankaaGreat

namespace Go.Proofs.YtphgchakmkankaaGreat
set_option linter.unusedSectionVars false
set_option linter.unusedVariables false
set_option linter.unusedSimpArgs false
open HP
section
variable {α β : Type} {E : List AV → β → HP} {f : α → β} {B : Blk → Prop} {σ0 σ : Heap} {R : HP} {sz : Nat} {v : AV}
theorem els_map : ∀ (seg : List (List AV)) (l : List α), els E seg (l.map f) = els (fun e x => E e (f x)) seg l
 | [], [] => rfl
 | [], _ :: _ => rfl
 | _ :: _, [] => rfl
 | e :: seg, x :: l => by rw [List.map_cons, els, els, els_map seg l]
theorem sl_map (l : List α) : Sl E sz v (l.map f) = Sl (fun e x => E e (f x)) sz v l := by
 funext h
 unfold Sl
 simp only [List.map_eq_nil_iff, List.length_map, els_map]
theorem els_mono {E' : List AV → β → HP} (k : ∀ {e x} {R : HP}, Hs B σ0 σ (E e x * R) → Hs B σ0 σ (E' e x * R)) : ∀ {seg : List (List AV)} {l : List β} {R : HP}, Hs B σ0 σ (els E seg l * R) → Hs B σ0 σ (els E' seg l * R)
 | [], [], R, H => H
 | [], _ :: _, R, H => H
 | _ :: _, [], R, H => H
 | e :: seg, x :: l, R, H => by
  rw [els] at H ⊢
  have H2 := els_mono k (hs_eq (show _ = els E seg l * (E e x * R) by ac_rfl) H)
  have H3 := k (hs_eq (show _ = E e x * (els E' seg l * R) by ac_rfl) H2)
  exact hs_eq (by ac_rfl) H3
theorem sl_mono {E' : List AV → β → HP} (k : ∀ {e x} {R : HP}, Hs B σ0 σ (E e x * R) → Hs B σ0 σ (E' e x * R)) {l : List β} (H : Hs B σ0 σ (Sl E sz v l * R)) : Hs B σ0 σ (Sl E' sz v l * R) := by
 rcases sl_cases H with ⟨rfl, hv, H⟩ | ⟨id, g, seg, rfl, hl, H⟩
 ·exact slz H hv
 ·have H2 := els_mono k (hs_eq (show _ = els E seg l * (blk id (.arr g sz seg) * R) by ac_rfl) H)
  exact sl_os (id := id) (g := g) (seg := seg) (hs_eq (by ac_rfl) H2)
end
def CueI (e : List AV) (y : CueD × Option (List AV)) : HP := CueE e y.1 * pr (∀ e0, y.2 = some e0 → e = e0)
section
variable {σ0 σ : Heap} {R : HP} {v : AV}
theorem cueI_E {B : Blk → Prop} {e : List AV} {y : CueD × Option (List AV)} {R : HP} (H : Hs B σ0 σ (CueI e y * R)) : Hs B σ0 σ (CueE e y.1 * R) ∧ ∀ e0, y.2 = some e0 → e = e0 := by
 unfold CueI at H
 have K := hs_pr.1 (hs_eq (show _ = pr (∀ e0, y.2 = some e0 → e = e0) * (CueE e y.1 * R) by ac_rfl) H)
 exact ⟨K.2, K.1⟩
theorem cueI_of {B : Blk → Prop} {e : List AV} {y : CueD × Option (List AV)} {R : HP} (H : Hs B σ0 σ (CueE e y.1 * R)) (h : ∀ e0, y.2 = some e0 → e = e0) : Hs B σ0 σ (CueI e y * R) := by
 unfold CueI
 exact hs_eq (show pr (∀ e0, y.2 = some e0 → e = e0) * (CueE e y.1 * R) = _ by ac_rfl) (hs_pr.2 ⟨h, H⟩)
theorem unpin {l : List (CueD × Option (List AV))} (H : Hs anyB σ0 σ (Sl CueI 11 v l * R)) : Hs anyB σ0 σ (Sl CueE 11 v (l.map (·.1)) * R) := by
 rw [sl_map]
 exact sl_mono (fun K => (cueI_E K).1) H
theorem pin {l : List CueD} {i : Nat} {x : CueD} (hx : l[i]? = some x) (H : Hs anyB σ0 σ (Sl CueE 11 v l * R)) : ∃ p vp vm, A.iaddr 11 v (.int .i64 (i : Int)) = some p ∧ (∃ q, A.faddr 10 p = some q ∧ ((A.deref q σ).bind fun c => A.part1 0 c) = some vm) ∧ A.lenS vm = some (.int .i64 (x.moves.length : Int)) ∧
  Hs anyB σ0 σ (Sl CueI 11 v ((l.map fun y => (y, none)).set i (x, some (cCueH x vp vm))) * R) := by
 have H2 : Hs anyB σ0 σ (Sl CueI 11 v (l.map fun y => (y, none)) * R) := by
  rw [sl_map]
  exact sl_mono (fun K => cueI_of K (fun e0 h => by cases h)) H
 obtain ⟨p, F, e, h1, hC, K, back⟩ := sl_cell H2 (x := (x, none)) (by rw [List.getElem?_map, hx]; rfl)
 have K2 := hs_eq (show _ = CueI e (x, none) * (F e * R) by ac_rfl) K
 obtain ⟨K3, _⟩ := cueI_E K2
 obtain ⟨vp, vm, he, K4⟩ := cueP (hs_eq (show _ = CueP (Sl (fl cMove) 8) e x * (F e * R) from rfl) K3)
 have hvm : A.cell vm = some vm := cell_sl (hs_drop K4)
 refine ⟨p, vp, vm, h1, ?_, sl_len (hs_drop K4), ?_⟩
 ·refine faddr_at hC 10 K ?_
  subst he
  simp only [cCueH, List.drop_succ_cons, List.drop_zero, A.part1, List.getElem?_cons_zero, Option.bind_some]
  exact hvm
 ·refine back (e := e) ?_
  have K5 := cueI_of (y := (x, some (cCueH x vp vm))) K3 (fun e0 h => by injection h with h; rw [he, h])
  exact hs_eq (by ac_rfl) K5
theorem pin_read {l : List (CueD × Option (List AV))} {i : Nat} {x : CueD} {vp vm : AV} (hx : l[i]? = some (x, some (cCueH x vp vm))) (H : Hs anyB σ0 σ (Sl CueI 11 v l * R)) : ∃ R', Hs anyB σ0 σ (Sl (fl cMove) 8 vm x.moves * R') := by
 obtain ⟨p, F, e, h1, hC, K, back⟩ := sl_cell H hx
 obtain ⟨K3, he⟩ := cueI_E (hs_eq (show _ = CueI e (x, some (cCueH x vp vm)) * (F e * R) by ac_rfl) K)
 have he := he _ rfl
 obtain ⟨vp', vm', he', K4⟩ := cueP (hs_eq (show _ = CueP (Sl (fl cMove) 8) e x * (F e * R) from rfl) K3)
 have : vm = vm' := by
  rw [he] at he'
  simp only [cCueH, List.cons.injEq] at he'
  exact he'.2.2.2.2.2.2.2.2.2.2.1
 subst this
 exact ⟨_, hs_drop K4⟩
theorem lt_slf {α : Type} {c : α → List AV} {sz : Nat} {l : List α} {vm : AV} (hc : ∀ x, FzL (c x)) (H : Hs anyB σ0 σ (Sl (fl c) sz vm l * R)) : Lt σ (.s sz) vm (sl sz c l) := by
 obtain ⟨v', h1, h2, h3⟩ := slf_fz H hc (Nat.zero_le _) 7
 refine ⟨⟨v', h1, ?_, by rw [h3]; rfl⟩, rfl, fun ho => ?_⟩
 ·rcases slf_cases H with ⟨rfl, rfl | rfl, _⟩ | ⟨id, g, rfl, K⟩
  ·simp [A.frz] at h1; subst h1; rfl
  ·simp [A.frz] at h1; subst h1; rfl
  ·cases v' <;> first | rfl | (cases h2; done) | (simp only [A.nn] at h3; cases h3)
 ·rcases slf_cases H with ⟨rfl, rfl | rfl, _⟩ | ⟨id, g, rfl, K⟩
  ·rfl
  ·rfl
  ·cases ho
theorem moveOf_own {l : List MoveD} {vm : AV} (H : Hs anyB σ0 σ (Sl (fl cMove) 8 vm l * R)) (hs : srtM l) (hl : l.length < 4611686018427387904) (k : KeyD) : m_R5_moveOf [vm, .agg (cKey k)] σ = some (.tup [.int .i64 (posM l k : Int), .bool (hasM l k)], σ) :=
 lent (ain := [.s 8]) (ts := [sl 8 cMove l, .agg (cKey k)]) ⟨lt_slf fz_cMove H, lt_fz (fz_agg (fz_cKey k)) rfl, trivial⟩ (fun σ => h_R5_moveOf (moveOf_t hs hl k)) rfl
theorem put5 {l : List MoveD} {vm : AV} {m : MoveD} (H : Hs anyB σ0 σ (Sl (fl cMove) 8 vm l * R)) (hs : srtM l) (hl : l.length < 2199023255552) : ∃ v' σ', m_R5_put [vm, .agg (cMove m)] σ = some (v', σ') ∧ A.cell v' = some v' ∧ Hs anyB σ0 σ' (Sl (fl cMove) 8 v' (putM l m) * R) := by
 have run : ∃ v' σ', r_R5_put vm (.agg (cMove m)) σ = some (v', σ') ∧ A.cell v' = some v' ∧ Hs anyB σ0 σ' (Sl (fl cMove) 8 v' (putM l m) * R) := by
  unfold r_R5_put
  rw [ce_cMove, Option.bind_some, pA_cMove_key, Option.bind_some, moveOf_own H hs (by omega), Option.bind_some]
  show ∃ v' σ', A.cond (.bool (hasM l m.key)) _ _ = _ ∧ _
  cases hh : hasM l m.key
  ·obtain ⟨v', σ1, e1, e2, H1⟩ := insM (m := m) (posM_le l m.key) hl H
   rw [cnd_f, pA_cMove, Option.bind_some, row_move, Option.bind_some, e1, Option.bind_some]
   refine ⟨v', σ1, rfl, e2, ?_⟩
   rw [putM, if_neg (by rw [hh]; decide)]; exact H1
  ·obtain ⟨y, hy⟩ := hasM_lt hs hh
   obtain ⟨pp, σ1, e1, e2, H1⟩ := setM (m := m) hy H
   rw [cnd_t, pA_cMove, Option.bind_some, e1, Option.bind_some, ce_cMove, Option.bind_some, e2, Option.bind_some]
   refine ⟨vm, σ1, rfl, cell_sl H, ?_⟩
   rw [putM, if_pos hh]; exact H1
 obtain ⟨v', σ', h1, h2⟩ := run
 refine ⟨v', σ', ?_, h2⟩
 unfold m_R5_put A.wrap
 rw [Bool.false_and, cond_false, show A.nnL [] [vm, .agg (cMove m)] = [vm, .agg (cMove m)] by simp [A.nnL]]
 show (r_R5_put vm (.agg (cMove m)) σ).map _ = _
 rw [h1]
 simp [nn_k]
theorem put5_cell {p : AV} {F : List AV → HP} {e : List AV} {x : CueD} (hC : Cl p F) (H : Hs anyB σ0 σ (F e * (CueE e x * R))) (hs : srtM x.moves) (hl : x.moves.length < 2199023255552) : ∃ q vm, A.faddr 10 p = some q ∧ ((A.deref q σ).bind fun c => A.part1 0 c) = some vm ∧ (∀ k, m_R5_moveOf [vm, .agg (cKey k)] σ = some (.tup [.int .i64 (posM x.moves k : Int), .bool (hasM x.moves k)], σ)) ∧
  ∀ m, ∃ v' σ1 σ2, m_R5_put [vm, .agg (cMove m)] σ = some (v', σ1) ∧ A.cell v' = some v' ∧ A.storeAt q [v'] σ1 = some σ2 ∧ ∃ e', Hs anyB σ0 σ2 (F e' * (CueE e' { x with moves := putM x.moves m } * R)) := by
 obtain ⟨vp, vm, he, K⟩ := cueP (hs_eq (show _ = CueP (Sl (fl cMove) 8) e x * (F e * R) from by rw [show CueE e x = CueP (Sl (fl cMove) 8) e x from rfl]; ac_rfl) H)
 subst he
 have hmv : Hs anyB σ0 σ (Sl (fl cMove) 8 vm x.moves * (F (cCueH x vp vm) * (Sf cPoint 2 vp x.curve.points * R))) := hs_eq (by ac_rfl) K
 obtain ⟨q, f1, f2⟩ := faddr_at hC 10 H (vm := vm) (by
  have := cell_sl hmv
  simp only [cCueH, List.drop_succ_cons, List.drop_zero, A.part1, List.getElem?_cons_zero, Option.bind_some]
  exact this)
 refine ⟨q, vm, f1, f2, fun k => moveOf_own hmv hs (by omega) k, fun m => ?_⟩
 obtain ⟨v', σ1, e1, e2, H1⟩ := put5 (m := m) hmv hs hl
 obtain ⟨q', g1, _, g3⟩ := hC.fa 10
 rw [f1] at g1; injection g1 with g1; subst g1
 obtain ⟨σ2, e3, H2⟩ := g3 (hs_eq (show _ = F (cCueH x vp vm) * (Sl (fl cMove) 8 v' (putM x.moves m) * (Sf cPoint 2 vp x.curve.points * R)) by ac_rfl) H1) (new := [v']) (e' := cCueH x vp v') rfl
 refine ⟨v', σ1, σ2, e1, e2, e3, cCueH x vp v', ?_⟩
 have := cueP_of (M := Sl (fl cMove) 8) (x := { x with moves := putM x.moves m }) (e := cCueH x vp v') (vp := vp) (vm := v') (R := F (cCueH x vp v') * R) (B := anyB) (σ0 := σ0) (σ := σ2) rfl (hs_eq (by ac_rfl) H2)
 exact hs_eq (by rw [show CueE (cCueH x vp v') { x with moves := putM x.moves m } = CueP (Sl (fl cMove) 8) (cCueH x vp v') { x with moves := putM x.moves m } from rfl]; ac_rfl) this
theorem set_mix {l : List CueD} {i : Nat} {x : CueD} (hx1 : l[i]? = some x) : ((l.take i).map (fun x => (x, true)) ++ (l.drop i).map (fun x => (x, false))).set i (x, true) = (l.take (i + 1)).map (fun x => (x, true)) ++ (l.drop (i + 1)).map (fun x => (x, false)) := by
 have hi := (List.getElem?_eq_some_iff.1 hx1).1
 have e : l.drop i = x :: l.drop (i + 1) := by rw [List.drop_eq_getElem_cons hi, (List.getElem?_eq_some_iff.1 hx1).2]
 rw [e, List.take_add_one, hx1, List.set_append_right _ _ (by simp; omega)]
 rw [show i - ((l.take i).map fun x => (x, true)).length = 0 by simp; omega]
 simp
def CueX (e : List AV) (y : CueD × Bool) : HP := match y.2 with | true => CueE e y.1 | false => fl cCue e y.1
theorem cloned_s {l : List CueD} (hl : Small l) (hx : l.length ≤ mxl) (H : Hs anyB σ0 σ R) : ∃ v σ', m_R5_cloned [sl 11 cCue l] σ = some (v, σ') ∧ Hs anyB σ0 σ' (Sl CueE 11 v l * R) := by
 have run : ∃ b : AV × Heap, r_R5_cloned (sl 11 cCue l) σ = some b ∧ Hs anyB σ0 b.2 (Sl CueE 11 b.1 l * R) := by
  unfold r_R5_cloned
  obtain ⟨v, s0, e1, _, K0⟩ := cloC hl.1 H
  rw [e1, Option.bind_some, sl_len K0, Option.bind_some]
  refine loop_k (Q := fun q => q.1 = .exit 0 ∧ Hs anyB σ0 q.2.2 (Sl CueE 11 v l * R)) (loop_hs l (fun i w s => w = [.int .i64 (i : Int)] ∧ Hs anyB σ0 s (Sl CueX 11 v ((l.take i).map (fun x => (x, true)) ++ (l.drop i).map (fun x => (x, false))) * R)) ?_ ?_ ⟨rfl, ?_⟩) ?_
  ·rintro i x w s hx1 ⟨rfl, K⟩
   obtain ⟨hm, hp⟩ := hl.2 x (List.mem_of_getElem? hx1)
   have hi := (List.getElem?_eq_some_iff.1 hx1).1
   have hxx : ((l.take i).map (fun x => (x, true)) ++ (l.drop i).map (fun x => (x, false)))[i]? = some (x, false) := by
    rw [List.getElem?_append_right (by simp; omega)]
    simp only [List.length_map, List.length_take, Nat.min_eq_left (Nat.le_of_lt hi), Nat.sub_self, List.getElem?_map, List.getElem?_drop, Nat.add_zero, hx1]
    rfl
   obtain ⟨p, F, e, h1, hC, K1, back⟩ := sl_cell K hxx
   have he : e = cCue x := (hs_pr.1 (hs_drop K1)).1
   subst he
   have K2 := hs_drop (hs_eq (show _ = pr (cCue x = cCue x) * (F (cCue x) * R) by rw [show CueX (cCue x) (x, false) = pr (cCue x = cCue x) from rfl]; ac_rfl) K1)
   obtain ⟨q, f1, f2, f3⟩ := hC.fa 10
   obtain ⟨q6, g1, _, _⟩ := hC.fa 6
   obtain ⟨q7, k1, k2, k3⟩ := hC.fa 7
   have g2 : A.faddr 1 q6 = some q7 := by rw [hC.fc 6 1 q6 g1]; exact k1
   simp only [List.getD_cons_zero]
   rw [ix_lt hx1, Option.bind_some, cnd_t, h1, Option.bind_some, f1, Option.bind_some, f2 K2, Option.bind_some, show A.part1 0 ((cCue x).drop 10) = some (sl 8 cMove x.moves) from rfl, Option.bind_some]
   obtain ⟨vm, s1, e3, e4, K3⟩ := cloM hm K2
   obtain ⟨s2, e5, K4⟩ := f3 (hs_eq (show _ = F (cCue x) * (Sl (fl cMove) 8 vm x.moves * R) by ac_rfl) K3) (new := [vm]) (e' := cCueH x (sl 2 cPoint x.curve.points) vm) rfl
   rw [e3, Option.bind_some, Option.bind_some, f1, Option.bind_some, e4, Option.bind_some, Option.bind_some, e5, Option.bind_some, Option.bind_some, g1, Option.bind_some, g2, Option.bind_some, k2 K4, Option.bind_some, show A.part1 0 ((cCueH x (sl 2 cPoint x.curve.points) vm).drop 7) = some (sl 2 cPoint x.curve.points) from rfl, Option.bind_some]
   obtain ⟨vp, s3, e6, e7, K5⟩ := cloP hp K4
   obtain ⟨s4, e8, K6⟩ := k3 (hs_eq (show _ = F (cCueH x (sl 2 cPoint x.curve.points) vm) * (Sl (fl cPoint) 2 vp x.curve.points * (Sl (fl cMove) 8 vm x.moves * R)) by ac_rfl) K5) (new := [vp]) (e' := cCueH x vp vm) rfl
   rw [e6, Option.bind_some, Option.bind_some, g1, Option.bind_some, g2, Option.bind_some, e7, Option.bind_some, Option.bind_some, e8, Option.bind_some, ix_inc hx1 hx, Option.bind_some]
   refine ⟨_, _, rfl, rfl, ?_⟩
   have K7 := cueP_of (M := Sl (fl cMove) 8) (x := x) (e := cCueH x vp vm) rfl (hs_eq (show _ = Sf cPoint 2 vp x.curve.points * (Sl (fl cMove) 8 vm x.moves * (F (cCueH x vp vm) * R)) by ac_rfl) (sf_own (hs_eq (show _ = Sl (fl cPoint) 2 vp x.curve.points * (F (cCueH x vp vm) * (Sl (fl cMove) 8 vm x.moves * R)) by ac_rfl) K6)))
   have K8 := back (y := (x, true)) (hs_eq (show _ = F (cCueH x vp vm) * (CueX (cCueH x vp vm) (x, true) * R) by rw [show CueX (cCueH x vp vm) (x, true) = CueP (Sl (fl cMove) 8) (cCueH x vp vm) x from rfl]; ac_rfl) K7)
   refine hs_eq ?_ K8
   rw [set_mix hx1]
  ·rintro w s ⟨rfl, K⟩
   simp only [List.getD_cons_zero]
   rw [ix_end, Option.bind_some, cnd_f]
   refine ⟨_, rfl, by simp, rfl, ?_⟩
   rw [List.take_length, List.drop_length, List.map_nil, List.append_nil, sl_map] at K
   exact K
  ·rw [List.take_zero, List.map_nil, List.nil_append, List.drop_zero, sl_map]
   exact K0
  ·rintro ⟨e, w, s⟩ ⟨h1, K⟩
   simp only at h1 K
   subst h1
   exact ⟨_, rfl, K⟩
 obtain ⟨⟨v, σ'⟩, h1, h2⟩ := run
 refine ⟨v, σ', wrap_eq rfl ?_ rfl, h2⟩
 rw [show A.nnL [Sh.e 11 [.k, .k, .k, .k, .k, .k, .k, .s 2, .k, .k, .s 8]] [sl 11 cCue l] = [sl 11 cCue l] from nn_t1 (nn_e (fun _ => rfl) _) rfl]
 exact h1
end
end Go.Proofs.YtphgchakmkankaaGreat

namespace Go.Proofs.YtphgchakmkankaaGreat
set_option linter.unusedSectionVars false
set_option linter.unusedVariables false
set_option linter.unusedSimpArgs false
open HP
def OkC (l : List CueD) : Prop := ∀ c ∈ l, okCue c
theorem okC_set {l : List CueD} (h : OkC l) (i : Nat) {g : List MoveD → List MoveD} (hg : ∀ c ∈ l, okL okMove (g c.moves)) : OkC (setMv l i g) := by
 intro c hc
 unfold setMv at hc
 split at hc
 ·rename_i x hx
  rcases List.mem_or_eq_of_mem_set hc with hc | hc
  ·exact h c hc
  ·subst hc
   have hx' := h x (List.mem_of_getElem? hx)
   obtain ⟨a1, a2, a3, a4, a5, a6, a7, a8, _⟩ := hx'
   exact ⟨a1, a2, a3, a4, a5, a6, a7, a8, hg x (List.mem_of_getElem? hx)⟩
 ·exact h c hc
theorem mem_put {l : List MoveD} {m x : MoveD} (h : x ∈ putM l m) : x ∈ l ∨ x = m := by
 unfold putM at h
 split at h
 ·exact List.mem_or_eq_of_mem_set h
 ·simp only [List.mem_append, List.mem_singleton] at h
  rcases h with (h | h) | h
  ·exact .inl (List.mem_of_mem_take h)
  ·exact .inr h
  ·exact .inl (List.mem_of_mem_drop h)
theorem ok_put {l : List MoveD} {m : MoveD} (h : ∀ x ∈ l, okMove x) (hm : okMove m) (hl : l.length < 2199023255552) : okL okMove (putM l m) :=
 ⟨by have := put_len l m; unfold mxl; omega, fun x hx => by rcases mem_put hx with hx | rfl; exact h x hx; exact hm⟩
theorem okC_put {l : List CueD} (h : OkC l) {k : Nat} (hI : Inv k l) (hk : k ≤ 100000) (i : Nat) {m : MoveD} (hm : okMove m) : OkC (setMv l i (putM · m)) :=
 okC_set h i fun c hc => ok_put (h c hc).2.2.2.2.2.2.2.2.2 hm (by have := (hI.2 c hc).2; omega)
theorem okL_of {l : List CueD} (h : OkC l) {k : Nat} (hI : Inv k l) : okL okCue l := ⟨by have := hI.1; unfold mxl; omega, h⟩
theorem okC_del {l : List CueD} (hl : OkC l) (hI : Inv 0 l) {a : Nat} {x : CueD} (hx : l[a]? = some x) (way : Int) : OkC (delF l a way) ∧ Inv 2000 (delF l a way) := by
 have hxo := hl x (List.mem_of_getElem? hx)
 have hxl := (hI.2 x (List.mem_of_getElem? hx)).2
 have ho : OkC (l.eraseIdx a) := fun c hc => hl c (List.mem_of_mem_eraseIdx hc)
 have hIo := hI.erase a
 unfold delF
 simp only [hx, Option.map_some, Option.getD_some]
 split
 ·rename_i nx _
  split
  ·have key : ∀ (ms : List MoveD) (k : Nat) (o : List CueD), (∀ m ∈ ms, okMove m) → k + ms.length ≤ 2000 → OkC o → Inv k o → OkC (ms.foldl (delStep a nx) o) ∧ Inv 2000 (ms.foldl (delStep a nx) o) := by
    intro ms
    induction ms with
    | nil => intro k o _ hk h1 h2; exact ⟨h1, h2.mono (by simpa using hk)⟩
    | cons m ms ih =>
     intro k o hms hk h1 h2
     simp only [List.length_cons] at hk
     refine ih (k + 1) _ (fun y hy => hms y (by simp [hy])) (by omega) ?_ (delStep_inv h2 m)
     unfold delStep
     split
     ·exact h1
     ·exact okC_put h1 h2 (by omega) nx (hms m (by simp))
   exact key x.moves 0 _ hxo.2.2.2.2.2.2.2.2.2 (by omega) ho hIo
  ·exact ⟨ho, hIo.mono (by omega)⟩
 ·exact ⟨ho, hIo.mono (by omega)⟩
def doneF (o : List CueD) : List CueD × Int := if formF o = 0 then (o, 0) else ([], formF o)
def delRes (l : List CueD) (n way : Int) : List CueD × Int :=
 if ¬ (formF l = 0) then ([], formF l) else if hasC l n = false then ([], 8) else if ¬ (way = 1 ∨ way = 2) then ([], 4) else doneF (delF l (posC l n) way)
theorem hasC_at {l : List CueD} {n : Int} (hg : Good l) (h : hasC l n = true) : ∃ x, l[posC l n]? = some x ∧ x.number = n := by
 rw [← posC_has hg.srt] at h
 cases hx : l[posC l n]? with
 | none => rw [hx] at h; cases h
 | some x => rw [hx] at h; exact ⟨x, rfl, by simpa using h⟩
theorem ext0 (a b : AV) : A.ext 0 (.tup [a, b]) = some a := rfl
theorem ext1 (a b : AV) : A.ext 1 (.tup [a, b]) = some b := rfl
theorem nn_ret {v : AV} {o : List CueD} {e : Int} (h : A.nn (.e 11 shCue) v = sl 11 cCue o) : A.nn (.t [(.e 11 shCue), .k]) (.tup [v, .int .i64 e]) = .tup [sl 11 cCue o, .int .i64 e] := by
 show AV.tup (A.nnL [.e 11 shCue, .k] [v, .int .i64 e]) = _
 rw [nn_t1 h (nn_t1 (nn_k _) nn_t0)]
theorem nn_nil {e : Int} : A.nn (.t [(.e 11 shCue), .k]) (.tup [.nsl, .int .i64 e]) = .tup [sl 11 cCue [], .int .i64 e] := nn_ret rfl
theorem nn_arg1 (l : List CueD) (aas : List AV) : A.nnL [Sh.e 11 shCue] (sl 11 cCue l :: aas) = sl 11 cCue l :: aas := nn_t1 (nn_idem_cues l) rfl
theorem When_8 (b : Bool) (σ : Heap) : m_word_When [.bool (!b), .int .i64 8] σ = some (.int .i64 (if b = false then 8 else 0), σ) := by
 rw [When_eq]; cases b <;> rfl
theorem aNeI (a : Int) : A.neq .i (.int .i64 a) (.int .i64 0) = some (.bool (decide (¬ (a = 0)))) := by rw [aNe]
theorem Delete_s {l : List CueD} (hl : okL okCue l) {n : Int} (hn : inI n) (way : Int) (σ : Heap) : m_cue_Delete [sl 11 cCue l, .int .i64 n, .int .i64 way] σ = some (.tup [sl 11 cCue (delRes l n way).1, .int .i64 (delRes l n way).2], σ) := by
 have run : ∃ b, r_cue_Delete (sl 11 cCue l) (.int .i64 n) (.int .i64 way) σ = some (b, σ) ∧ A.nn (.t [(.e 11 shCue), .k]) b = .tup [sl 11 cCue (delRes l n way).1, .int .i64 (delRes l n way).2] := by
  unfold r_cue_Delete delRes
  rw [h_cue_form (form_t l hl), Option.bind_some, aNeI, Option.bind_some]
  by_cases hf : formF l = 0
  case neg =>
   rw [decide_eq_true hf, cnd_t, if_pos hf]
   exact ⟨_, fin_same _ _, nn_nil⟩
  have hg := good_of hf
  rw [decide_eq_false (by simp [hf]), cnd_f, if_neg (by simp [hf])]
  obtain ⟨p, e1, e2, e3⟩ := place_t hg hn σ
  rw [e1, Option.bind_some]
  rw [ext0, Option.bind_some, ext1, Option.bind_some]
  rw [show A.not (.bool (hasC l n)) = some (.bool (!hasC l n)) from rfl, Option.bind_some, When_8, Option.bind_some]
  rw [h_cue_wayFault (a0 := way) (σ := σ) (r := (if ((decide (¬ (way = 1))) && (decide (¬ (way = 2)))) = true then 4 else 0)) rfl, Option.bind_some]
  obtain ⟨w1, hw1⟩ : ∃ w1 : Int, w1 = if hasC l n = false then 8 else 0 := ⟨_, rfl⟩
  obtain ⟨w2, hw2⟩ : ∃ w2 : Int, w2 = if ((decide (¬ (way = 1))) && (decide (¬ (way = 2)))) = true then 4 else 0 := ⟨_, rfl⟩
  rw [← hw1, ← hw2]
  have hrow : (((A.cell (.int .i64 w1)).bind fun v => some [v]).bind fun c9 => (A.splice 0 c9 [(AV.int .i64 0), (AV.int .i64 0)]).bind fun c10 => ((A.cell (.int .i64 w2)).bind fun v => some [v]).bind fun c11 => (A.splice 1 c11 c10).bind fun c12 => some c12) = some [.int .i64 w1, .int .i64 w2] := rfl
  simp only
  rw [hrow, Option.bind_some, Option.bind_some, show AV.sl 1 (chunks 1 2 [.int .i64 w1, .int .i64 w2]) = sl 1 cInt [w1, w2] from rfl, First_eq _ (by simp [mxl]), Option.bind_some, find2, aNeI, Option.bind_some]
  cases hh : hasC l n
  ·have : w1 = 8 := by rw [hw1, hh]; rfl
   subst this
   simp only [show ¬ ((8 : Int) = 0) by decide, not_false_eq_true, if_true, decide_true, cnd_t]
   exact ⟨_, fin_same _ _, nn_nil⟩
  ·have : w1 = 0 := by rw [hw1, hh]; rfl
   subst this
   simp only [not_true_eq_false, if_false, Bool.true_eq_false]
   by_cases hw : way = 1 ∨ way = 2
   case neg =>
    have : w2 = 4 := by rw [hw2]; simp only [not_or] at hw; simp [hw.1, hw.2]
    subst this
    rw [if_pos hw, decide_eq_true (by decide), cnd_t]
    exact ⟨_, fin_same _ _, nn_nil⟩
   have : w2 = 0 := by rw [hw2]; rcases hw with h | h <;> simp [h]
   subst this
   rw [if_neg (fun h => h hw), decide_eq_false (by decide), cnd_f, e3 (.inr hh)]
   obtain ⟨x, hx, _⟩ := hasC_at hg hh
   rw [deleted_s hg hx, Option.bind_some]
   obtain ⟨k1, k2⟩ := okC_del hl.2 (inv_good hg) hx way
   have hd : m_cue_done [sl 11 cCue (delF l (posC l n) way)] σ = some (.tup [if formF (delF l (posC l n) way) = 0 then sl 11 cCue (delF l (posC l n) way) else .nsl, .int .i64 (formF (delF l (posC l n) way))], σ) := by
    unfold m_cue_done A.wrap
    rw [Bool.false_and, cond_false, show A.nnL [] [sl 11 cCue (delF l (posC l n) way)] = [sl 11 cCue (delF l (posC l n) way)] by simp [A.nnL]]
    show (r_cue_done (sl 11 cCue (delF l (posC l n) way)) σ).map _ = _
    unfold r_cue_done
    rw [h_cue_form (form_t _ (okL_of k1 k2)), Option.bind_some, aNeI, Option.bind_some]
    by_cases hq : formF (delF l (posC l n) way) = 0
    ·rw [decide_eq_false (by simp [hq]), cnd_f, if_pos hq, hq]; simp [nn_k]
    ·rw [decide_eq_true hq, cnd_t, if_neg hq]; simp [nn_k]
   rw [hd, Option.bind_some]
   rw [ext0, Option.bind_some, ext1, Option.bind_some]
   refine ⟨_, fin_same _ _, ?_⟩
   unfold doneF
   split
   ·rename_i hq; rw [hq]; exact nn_ret (nn_idem_cues _)
   ·exact nn_nil
 obtain ⟨b, h1, h2⟩ := run
 refine wrap_eq rfl ?_ h2
 rw [show A.nnL [Sh.e 11 [.k, .k, .k, .k, .k, .k, .k, .s 2, .k, .k, .s 8]] [sl 11 cCue l, .int .i64 n, .int .i64 way] = [sl 11 cCue l, .int .i64 n, .int .i64 way] from nn_arg1 l _]
 exact h1
end Go.Proofs.YtphgchakmkankaaGreat

namespace Go.Proofs.YtphgchakmkankaaGreat
set_option linter.unusedSectionVars false
set_option linter.unusedVariables false
set_option linter.unusedSimpArgs false
open HP
def k5F (out : List CueD) (a : Nat) (way : Int) (m : MoveD) : Int := if way = 1 then (blkK out (a + 1) m.key).getD (-1) else ((a + 1 : Nat) : Int)
def delStep5 (a : Nat) (way : Int) (out : List CueD) (m : MoveD) : List CueD :=
 if k5F out a way m < 0 ∨ (out.length : Int) ≤ k5F out a way m then out
 else if ((out[(k5F out a way m).toNat]?).any fun c => hasM c.moves m.key) = true then out else setMv out (k5F out a way m).toNat (putM · m)
def delF5 (l : List CueD) (a : Nat) (way : Int) : List CueD := (((l[a]?.map (·.moves)).getD []).foldl (delStep5 a way) l).eraseIdx a
theorem k5_gt (out : List CueD) (a : Nat) (way : Int) (m : MoveD) : k5F out a way m = -1 ∨ ((a + 1 : Nat) : Int) ≤ k5F out a way m := by
 unfold k5F
 split
 ·have key : ∀ (l : List CueD) (i : Nat), (scanL (fun j c => if hasM c.moves m.key = true then some (-1) else if c.block = true then some (j : Int) else none) l i).getD (-1) = -1 ∨ (i : Int) ≤ (scanL (fun j c => if hasM c.moves m.key = true then some (-1) else if c.block = true then some (j : Int) else none) l i).getD (-1) := by
   intro l
   induction l with
   | nil => intro i; exact .inl rfl
   | cons x l ih =>
    intro i
    rw [scanL]
    cases hasM x.moves m.key
    ·cases x.block
     ·simp only [Bool.false_eq_true, if_false]
      rcases ih (i + 1) with h | h
      ·exact .inl h
      ·exact .inr (by omega)
     ·simp
    ·simp
  exact key _ _
 ·exact .inr (by omega)
theorem step5_len (a : Nat) (way : Int) (out : List CueD) (m : MoveD) : (delStep5 a way out m).length = out.length := by
 unfold delStep5
 split
 ·rfl
 split
 ·rfl
 ·exact setMv_len _ _ _
theorem step5_inv {k a : Nat} {way : Int} {out : List CueD} (h : Inv k out) (m : MoveD) : Inv (k + 1) (delStep5 a way out m) := by
 unfold delStep5
 split
 ·exact h.mono (Nat.le_succ k)
 split
 ·exact h.mono (Nat.le_succ k)
 ·exact h.setMv _ m
theorem setMv_ne {l : List CueD} {i j : Nat} (h : i ≠ j) (g : List MoveD → List MoveD) : (setMv l i g)[j]? = l[j]? := by
 unfold setMv
 split
 ·rw [List.getElem?_set_ne h]
 ·rfl
theorem step5_at (a : Nat) (way : Int) (out : List CueD) (m : MoveD) : (delStep5 a way out m)[a]? = out[a]? := by
 unfold delStep5
 split
 ·rfl
 split
 ·rfl
 ·rename_i h _
  rcases k5_gt out a way m with e | e
  ·exact absurd (.inl (by omega)) h
  ·exact setMv_ne (by omega) _
theorem fold5 {a : Nat} {way : Int} : ∀ (l : List MoveD) (k : Nat) (o : List CueD), Inv k o → Inv (k + l.length) (l.foldl (delStep5 a way) o) ∧ (l.foldl (delStep5 a way) o).length = o.length ∧ (l.foldl (delStep5 a way) o)[a]? = o[a]?
 | [], k, o, h => ⟨h, rfl, rfl⟩
 | m :: l, k, o, h => by
  obtain ⟨h1, h2, h3⟩ := fold5 l (k + 1) (delStep5 a way o m) (step5_inv h m)
  exact ⟨h1.mono (by simp; omega), by rw [List.foldl_cons, h2, step5_len], by rw [List.foldl_cons, h3, step5_at]⟩
section
variable {σ0 σ : Heap} {R : HP}
theorem shaped_own {v : AV} {o : List CueD} (H : Hs anyB σ0 σ (Sl CueE 11 v o * R)) (ho : okL okCue o) : m_R5_shaped [v] σ = some (.tup [if formF o = 0 then v else .nsl, .int .i64 (formF o)], σ) := by
 have hf : m_R5_CheckForm [v] σ = some (.int .i64 (formF o), σ) := lent (ain := [.e 11 shCue]) (ts := [sl 11 cCue o]) ⟨lt_cues H, trivial⟩ (fun σ => h_R5_CheckForm (CheckForm5_t o ho)) rfl
 unfold m_R5_shaped A.wrap
 rw [Bool.false_and, cond_false, show A.nnL [] [v] = [v] by simp [A.nnL]]
 show (r_R5_shaped v σ).map _ = _
 unfold r_R5_shaped
 rw [hf, Option.bind_some, aNeI, Option.bind_some]
 by_cases hq : formF o = 0
 ·rw [decide_eq_false (by simp [hq]), cnd_f, if_pos hq, hq]; simp [nn_k]
 ·rw [decide_eq_true hq, cnd_t, if_neg hq]; simp [nn_k]
theorem fin_ret {v : AV} {l : List CueD} {e : Int} (H : Hs anyB σ0 σ (Sl CueF 11 v l * R)) : ∃ v', A.fin σ0 (.tup [v, .int .i64 e]) σ = some (.tup [v', .int .i64 e], σ0) ∧ A.nn (.e 11 shCue) v' = sl 11 cCue l := by
 obtain ⟨v', h1, h2, h3⟩ := cuesF_fz H (Nat.le_refl _) 6
 refine ⟨v', fin_hs H (by simp [A.frz, A.frzL, h1]) (fun e => ?_), h3⟩
 rcases sl_cases H with ⟨rfl, rfl | rfl, _⟩ | ⟨id, g, seg, rfl, hl, K⟩
 ·simp [A.frz] at h1; rw [h1]
 ·simp [A.frz] at h1; rw [h1]
 ·obtain ⟨k1, k2⟩ := hs_get K
  have := (List.getElem?_eq_some_iff.1 k2).1
  subst e; omega
theorem fin_nil {e : Int} (H : Hs anyB σ0 σ R) : A.fin σ0 (.tup [.nsl, .int .i64 e]) σ = some (.tup [.nsl, .int .i64 e], σ0) := fin_hs H (by simp [A.frz, A.frzL]) (fun _ => rfl)
theorem blocked5_own {v : AV} {l : List CueD} (H : Hs anyB σ0 σ (Sl CueE 11 v l * R)) (hl : l.length < 4611686018427387904) (hm : ∀ c ∈ l, srtM c.moves ∧ c.moves.length < 4611686018427387904) (i : Nat) (k : KeyD) : m_R5_blocked [v, .int .i64 (i : Int), .agg (cKey k)] σ = some (.int .i64 ((blkK l i k).getD (-1)), σ) :=
 lent (ain := [.e 11 shCue]) (ts := [sl 11 cCue l, .int .i64 (i : Int), .agg (cKey k)]) ⟨lt_cues H, lt_int _, lt_fz (fz_agg (fz_cKey k)) rfl, trivial⟩ (fun σ => h_R5_blocked (blocked5_t hl hm i k)) rfl
theorem pin_fst {o : List CueD} {a : Nat} {x : CueD} {c : Option (List AV)} (hx : o[a]? = some x) : ((o.map fun y => (y, (none : Option (List AV)))).set a (x, c)).map (·.1) = o := by
 rw [List.map_set, List.map_map]
 simp only [Function.comp_def, List.map_id']
 apply List.ext_getElem?
 intro j
 rw [List.getElem?_set]
 split
 ·rename_i e; subst e; rw [hx, if_pos (List.getElem?_eq_some_iff.1 hx).1]
 ·rfl
theorem pin_set {o : List CueD} {a k : Nat} (h : a ≠ k) {x y : CueD} {c : Option (List AV)} : ((o.map fun y => (y, (none : Option (List AV)))).set a (x, c)).set k (y, none) = ((o.set k y).map fun y => (y, (none : Option (List AV)))).set a (x, c) := by
 rw [List.set_comm _ _ h, List.map_set]
theorem Delete5_s {l : List CueD} (hl : okL okCue l) {a : Nat} {x : CueD} (hx : l[a]? = some x) (hg : Good l) (way : Int) {n : Int} (hok : okL okCue (delF5 l a way)) (σ : Heap) :
  ∃ b, ((m_R5_cloned [sl 11 cCue l] σ).bind fun r7 =>
    (A.iaddr 11 r7.1 (.int .i64 (a : Int))).bind fun x8 =>
    (A.faddr 10 x8).bind fun x9 =>
    ((A.deref x9 r7.2).bind fun c10 => A.part1 0 c10).bind fun x11 =>
    (A.lenS x11).bind fun x12 =>
    (A.loop (fun v13 s14 =>
      (A.lss (v13.getD 0 AV.undef) x12).bind fun x16 =>
      A.cond x16 (
       (A.iaddr 8 x11 (v13.getD 0 AV.undef)).bind fun x17 =>
       ((A.deref x17 s14).bind fun c18 => A.partA 0 8 c18).bind fun x19 =>
       (A.cells 8 x19).bind fun c20 =>
       (A.splice 0 c20 [(AV.int .i64 0), (AV.str ⟨#[]⟩), (AV.int .i64 0), (AV.int .i64 0), (AV.bool false), (AV.bool false), (AV.int .i64 0), (AV.int .i64 0)]).bind fun c21 =>
       (A.add (.int .i64 (a : Int)) (AV.int .i64 1)).bind fun x22 =>
       (A.eql .i (.int .i64 way) (AV.int .i64 1)).bind fun x23 =>
       (A.cond x23 (
        (A.add (.int .i64 (a : Int)) (AV.int .i64 1)).bind fun x25 =>
        (A.partA 0 2 c21).bind fun x26 =>
        (m_R5_blocked [r7.1, x25, x26] s14).bind fun r27 =>
        some ([(AV.lbx c21), r27.1], r27.2)) (
        some ([(AV.lbx c21), x22], s14))).bind fun r24 =>
       (A.lss (r24.1.getD 1 AV.undef) (AV.int .i64 0)).bind fun x28 =>
       (A.guard x28 false (some (r24.1.getD 1 AV.undef)) (some (AV.tup []))).bind fun x29 =>
       (A.guard x28 false (some r7.1) (some (AV.tup []))).bind fun x30 =>
       (A.guard x28 false (A.lenS x30) (some (AV.tup []))).bind fun x31 =>
       (A.guard x28 false (A.geq x29 x31) (some (AV.tup []))).bind fun x32 =>
       (A.pick x28 (AV.bool true) x32).bind fun x33 =>
       A.cond x33 (
        (A.add (v13.getD 0 AV.undef) (AV.int .i64 1)).bind fun x34 =>
        some (AX.normal, [x34], r24.2)) (
        (A.iaddr 11 r7.1 (r24.1.getD 1 AV.undef)).bind fun x35 =>
        (A.faddr 10 x35).bind fun x36 =>
        ((A.deref x36 r24.2).bind fun c37 => A.part1 0 c37).bind fun x38 =>
        ((A.lb (r24.1.getD 0 AV.undef)).bind fun _ => some (0)).bind fun p39 =>
        ((A.lb (r24.1.getD 0 AV.undef)).bind fun c40 => A.partA p39 2 c40).bind fun x41 =>
        (A.quiet (m_R5_moveOf [x38, x41] r24.2) r24.2).bind fun x42 =>
        (A.ext 0 x42).bind fun x43 =>
        (A.ext 1 x42).bind fun x44 =>
        (A.not x44).bind fun x45 =>
        (A.cond x45 (
         (A.iaddr 11 r7.1 (r24.1.getD 1 AV.undef)).bind fun x47 =>
         (A.faddr 10 x47).bind fun x48 =>
         ((A.deref x48 r24.2).bind fun c49 => A.part1 0 c49).bind fun x50 =>
         ((A.lb (r24.1.getD 0 AV.undef)).bind fun c51 => A.partA 0 8 c51).bind fun x52 =>
         (m_R5_put [x50, x52] r24.2).bind fun r53 =>
         (A.iaddr 11 r7.1 (r24.1.getD 1 AV.undef)).bind fun x54 =>
         (A.faddr 10 x54).bind fun x55 =>
         ((A.cell r53.1).bind fun v => some [v]).bind fun c56 =>
         (A.storeAt x55 c56 r53.2).bind fun c57 =>
         some (([] : List AV), c57)) (
         some (([] : List AV), r24.2))).bind fun r46 =>
        (A.add (v13.getD 0 AV.undef) (AV.int .i64 1)).bind fun x58 =>
        some (AX.normal, [x58], r46.2))) (
       some (AX.exit 0, [(v13.getD 0 AV.undef)], s14))) [(AV.int .i64 0)] r7.2).bind fun r59 =>
    bif r59.1 == AX.exit 0 then (
     (A.add (.int .i64 (a : Int)) (AV.int .i64 1)).bind fun x60 =>
     (m_slices_Delete_api_Cue [r7.1, (.int .i64 (a : Int)), x60] r59.2.2).bind fun r61 =>
     (m_R5_shaped [r61.1] r61.2).bind fun r62 =>
     (A.ext 0 r62.1).bind fun x63 =>
     (A.ext 1 r62.1).bind fun x64 =>
     A.fin σ (AV.tup [x63, x64]) r62.2) else
    none) = some b ∧ b.2 = σ ∧ A.nn (.t [(.e 11 shCue), .k]) b.1 = .tup [sl 11 cCue (doneF (delF5 l a way)).1, .int .i64 (doneF (delF5 l a way)).2] := by
 have hal := (List.getElem?_eq_some_iff.1 hx).1
 have hlen := hg.len
 have hI0 := inv_good hg
 have hmv : x.moves.length ≤ 2000 := (hg.mv x (List.mem_of_getElem? hx)).1
 obtain ⟨v, s1, e1, K1⟩ := cloned_s (small_of hg) (by unfold mxl; omega) (hs_nil (B := anyB) σ)
 obtain ⟨p0, vp, vm, f1, ⟨q0, f2, f3⟩, f4, K2⟩ := pin hx K1
 rw [e1, Option.bind_some, f1, Option.bind_some, f2, Option.bind_some, f3, Option.bind_some, f4, Option.bind_some]
 refine loop_k (Q := fun q => q.1 = .exit 0 ∧ Hs anyB σ q.2.2 (Sl CueE 11 v (x.moves.foldl (delStep5 a way) l) * emp)) (loop_hs x.moves (fun i w s => w = [.int .i64 (i : Int)] ∧ Hs anyB σ s (Sl CueI 11 v ((((x.moves.take i).foldl (delStep5 a way) l).map fun y => (y, none)).set a (x, some (cCueH x vp vm))) * emp)) ?_ ?_ ⟨rfl, K2⟩) ?_
 ·rintro i m w s hm ⟨rfl, K⟩
  have hi := (List.getElem?_eq_some_iff.1 hm).1
  obtain ⟨hI, hL, hA⟩ := fold5 (a := a) (way := way) (x.moves.take i) 0 l hI0
  rw [foldl_take _ _ _ hm]
  obtain ⟨o, ho⟩ : ∃ o, o = (x.moves.take i).foldl (delStep5 a way) l := ⟨_, rfl⟩
  rw [← ho] at hI hL hA K ⊢
  rw [hx] at hA
  have hil : 0 + (x.moves.take i).length ≤ 2000 := by simp; omega
  have hKE := unpin K
  rw [pin_fst hA] at hKE
  obtain ⟨R', hR⟩ := pin_read (i := a) (x := x) (vp := vp) (vm := vm) (by rw [List.getElem?_set_self (by simp; omega)]) K
  obtain ⟨pm, g1, g2⟩ := slf_at hR hm
  simp only [List.getD_cons_zero]
  rw [ix_lt hm, Option.bind_some, cnd_t, g1, Option.bind_some, g2, Option.bind_some, pA_cMove, Option.bind_some, ce_cMove, Option.bind_some, sp_cMove m _ rfl, Option.bind_some, tadd1 (by omega), Option.bind_some, aEq, Option.bind_some]
  -- the place
  have sel : ∃ r, (A.cond (.bool (decide (way = 1))) (
        (some (AV.int .i64 ((a + 1 : Nat) : Int))).bind fun x25 =>
        (A.partA 0 2 (cMove m)).bind fun x26 =>
        (m_R5_blocked [v, x25, x26] s).bind fun r27 =>
        some ([(AV.lbx (cMove m)), r27.1], r27.2)) (
        some ([(AV.lbx (cMove m)), AV.int .i64 ((a + 1 : Nat) : Int)], s))) = some r ∧ r = ([.lbx (cMove m), .int .i64 (k5F o a way m)], s) := by
   unfold k5F
   by_cases hw : way = 1
   ·rw [decide_eq_true hw, cnd_t, if_pos hw, Option.bind_some, pA_cMove_key, Option.bind_some, blocked5_own hKE (by omega) (hI.small (by omega)), Option.bind_some]
    exact ⟨_, rfl, rfl⟩
   ·rw [decide_eq_false hw, cnd_f, if_neg hw]
    exact ⟨_, rfl, rfl⟩
  obtain ⟨r, hr1, hr2⟩ := sel
  subst hr2
  rw [hr1, Option.bind_some]
  simp only [List.getD_cons_zero, List.getD_cons_succ]
  have hlv : A.lenS v = some (.int .i64 (o.length : Int)) := by have := sl_len hKE; exact this
  rw [tlss0, Option.bind_some]
  unfold delStep5
  rcases k5_gt o a way m with hk | hk
  ·rw [hk]
   simp only [show decide ((-1 : Int) < 0) = true from rfl, A.guard, show (true == false) = false from rfl, cond_false, Option.bind_some, A.pick, cond_true, cnd_t]
   rw [tadd1 (by omega), Option.bind_some, if_pos (.inl (by decide))]
   exact ⟨_, _, rfl, rfl, K⟩
  ·obtain ⟨k, hkk⟩ : ∃ k : Nat, k5F o a way m = (k : Int) := ⟨(k5F o a way m).toNat, by omega⟩
   rw [hkk] at hk ⊢
   have hak : a ≠ k := by omega
   rw [decide_eq_false (by omega)]
   simp only [A.guard, beq_self_eq_true, cond_true, Option.bind_some, hlv, A.pick, cond_false]
   rw [aGeq]
   try simp only [Option.bind_some]
   by_cases hko : k < o.length
   case neg =>
    rw [decide_eq_true (by omega), cnd_t, tadd1 (by omega), Option.bind_some, if_pos (.inr (by omega))]
    exact ⟨_, _, rfl, rfl, K⟩
   rw [decide_eq_false (by omega), cnd_f, if_neg (by omega), Int.toNat_natCast]
   have hok1 : o[k]? = some o[k] := List.getElem?_eq_getElem hko
   have hsr := hI.2 o[k] (List.mem_of_getElem? hok1)
   obtain ⟨p, F, e, h1, hC, K3, back⟩ := sl_cell K (i := k) (x := (o[k], none)) (by rw [List.getElem?_set_ne hak, List.getElem?_map, hok1]; rfl)
   obtain ⟨K4, _⟩ := cueI_E (hs_eq (show _ = CueI e (o[k], none) * (F e * emp) by ac_rfl) K3)
   obtain ⟨q, vk, b1, b2, b3, b4⟩ := put5_cell hC (hs_eq (show _ = F e * (CueE e o[k] * emp) by ac_rfl) K4) hsr.1 (by omega)
   rw [h1, Option.bind_some, b1, Option.bind_some, b2, Option.bind_some]
   rw [show ((A.lb (.lbx (cMove m))).bind fun _ => some (0)) = some 0 from rfl, Option.bind_some, show ((A.lb (.lbx (cMove m))).bind fun c40 => A.partA 0 2 c40) = some (.agg (cKey m.key)) from rfl, Option.bind_some, quiet_of (b3 m.key), Option.bind_some, ext0, Option.bind_some, ext1, Option.bind_some]
   rw [show A.not (.bool (hasM o[k].moves m.key)) = some (.bool (!hasM o[k].moves m.key)) from rfl, Option.bind_some]
   rw [hok1, Option.any_some]
   cases hh : hasM o[k].moves m.key
   ·rw [show (!false) = true from rfl, cnd_t, if_neg (by decide)]
    obtain ⟨v', s2, s3, c1, c2, c3, e', K5⟩ := b4 m
    rw [Option.bind_some, b1, Option.bind_some, b2, Option.bind_some, show ((A.lb (.lbx (cMove m))).bind fun c51 => A.partA 0 8 c51) = some (.agg (cMove m)) from rfl, Option.bind_some, c1, Option.bind_some, Option.bind_some, b1, Option.bind_some, c2, Option.bind_some, Option.bind_some, c3, Option.bind_some, Option.bind_some, tadd1 (by omega), Option.bind_some]
    refine ⟨_, _, rfl, rfl, ?_⟩
    have K6 := back (e := e') (y := ({ o[k] with moves := putM o[k].moves m }, none)) (by
     have K7 := cueI_of (y := ({ o[k] with moves := putM o[k].moves m }, none)) (hs_eq (show _ = CueE e' { o[k] with moves := putM o[k].moves m } * (F e' * emp) by ac_rfl) K5) (fun e0 h => by cases h)
     exact hs_eq (by ac_rfl) K7)
    rw [pin_set hak] at K6
    rw [setMv, hok1]
    exact K6
   ·rw [show (!true) = false from rfl, cnd_f, if_pos rfl, Option.bind_some, tadd1 (by omega), Option.bind_some]
    exact ⟨_, _, rfl, rfl, K⟩
 ·rintro w s ⟨rfl, K⟩
  obtain ⟨hI, hL, hA⟩ := fold5 (a := a) (way := way) x.moves 0 l hI0
  simp only [List.getD_cons_zero]
  rw [ix_end, Option.bind_some, cnd_f]
  rw [List.take_length] at K
  have hKE := unpin K
  rw [pin_fst (hA.trans hx)] at hKE
  exact ⟨_, rfl, by simp, rfl, hKE⟩
 ·rintro ⟨e, w, s⟩ ⟨h1, K⟩
  simp only at h1 K
  subst h1
  obtain ⟨hI, hL, hA⟩ := fold5 (a := a) (way := way) x.moves 0 l hI0
  have hdel : delF5 l a way = (x.moves.foldl (delStep5 a way) l).eraseIdx a := by unfold delF5; rw [hx]; rfl
  obtain ⟨v2, s2, xe, _, e4, K2⟩ := delC (hA.trans hx) (by omega) K
  rw [← hdel] at K2
  simp only [exb]
  rw [tadd1 (by omega), Option.bind_some, e4, Option.bind_some]
  simp only
  rw [shaped_own K2 hok, Option.bind_some]
  simp only
  rw [ext0, Option.bind_some, ext1, Option.bind_some]
  unfold doneF
  by_cases hq : formF (delF5 l a way) = 0
  ·rw [if_pos hq, if_pos hq, hq]
   obtain ⟨v', j1, j2⟩ := fin_ret (e := 0) (cues_weak K2)
   exact ⟨_, j1, rfl, nn_ret j2⟩
  ·rw [if_neg hq, if_neg hq]
   exact ⟨_, fin_nil K2, rfl, nn_nil⟩
end
end Go.Proofs.YtphgchakmkankaaGreat

namespace Go.Proofs.YtphgchakmkankaaGreat
set_option linter.unusedSectionVars false
set_option linter.unusedVariables false
set_option linter.unusedSimpArgs false
open HP
def frB : Blk → Prop := fun b => A.freshB b = true
section
variable {α : Type} {c : α → List AV} {sz : Nat} {σ0 σ : Heap} {R : HP}
theorem hs_ext {B : Blk → Prop} (H : Hs B σ0 σ R) (bs : Heap) (hbs : ∀ b ∈ bs, B b) : Hs B σ0 (σ ++ bs) R := by
 obtain ⟨⟨b0, rfl, hb0⟩, h, hr, h2⟩ := H
 exact ⟨⟨b0 ++ bs, by simp, fun b hb => (List.mem_append.1 hb).elim (hb0 b) (hbs b)⟩, h, hr, fun i b hb => ⟨(h2 i b hb).1, by rw [List.getElem?_append_left (List.getElem?_eq_some_iff.1 (h2 i b hb).2).1]; exact (h2 i b hb).2⟩⟩
theorem hs_add {B : Blk → Prop} (H : Hs B σ0 σ R) {bs : Heap} (hbs : ∀ b ∈ bs, B b) {j : Nat} {b : Blk} (hj : σ.length ≤ j) (hb : (σ ++ bs)[j]? = some b) : Hs B σ0 (σ ++ bs) (blk j b * R) := by
 have hl := hs_len H
 have H2 := hs_ext H bs hbs
 obtain ⟨_, h, hr, h2⟩ := H
 have hn : h j = none := by
  cases hh : h j with
  | none => rfl
  | some x => have := (List.getElem?_eq_some_iff.1 (h2 j x hh).2).1; omega
 refine ⟨H2.pre, fun i => if i = j then some b else h i, ⟨fun i => if i = j then some b else none, h, fun i => rfl, hr, fun i => ?_, fun i => ?_⟩, fun i x hx => ?_⟩
 ·by_cases e : i = j
  ·subst e; exact .inr hn
  ·simp [e]
 ·by_cases e : i = j <;> simp [e]
 ·by_cases e : i = j
  ·subst e
   simp only [if_true, Option.some.injEq] at hx
   subst hx
   exact ⟨by omega, hb⟩
  ·simp only [e, if_false] at hx
   obtain ⟨k1, k2⟩ := h2 i x hx
   exact ⟨k1, by rw [List.getElem?_append_left (List.getElem?_eq_some_iff.1 k2).1]; exact k2⟩
def KS (m : List AV → Heap → Option (AV × Heap)) (args : List AV) (c : α → List AV) (sz : Nat) (l : List α) : Prop :=
 ∀ (σ0 σ : Heap) (R : HP), Hs frB σ0 σ R → ∃ v σ', m args σ = some (v, σ') ∧ Hs frB σ0 σ' (Sl (fl c) sz v l * R)
theorem ks_at {B : Blk → Prop} (hBB : ∀ b, frB b → B b) {m : List AV → Heap → Option (AV × Heap)} {args : List AV} {l : List α} (h : KS m args c sz l) (H : Hs B σ0 σ R) : ∃ v σ', m args σ = some (v, σ') ∧ Hs B σ0 σ' (Sl (fl c) sz v l * R) := by
 obtain ⟨v, σ', e1, K⟩ := h σ σ emp (hs_nil σ)
 refine ⟨v, σ', e1, ?_⟩
 obtain ⟨⟨bs, hbs, hfr⟩, _⟩ := id K
 subst hbs
 have hbb : ∀ b ∈ bs, B b := fun b hb => hBB b (hfr b hb)
 rcases slf_cases K with ⟨rfl, hv, _⟩ | ⟨id, g, rfl, K2⟩
 ·exact slz (hs_ext H bs hbb) hv
 ·obtain ⟨k1, k2⟩ := hs_get K2
  exact slf_os (hs_add H hbb k1 k2)
theorem lentK {B : Blk → Prop} (hBB : ∀ b, frB b → B b) {ain : List Sh} {r : List AV → Heap → Option (AV × Heap)} {as0 ts : List AV} {l : List α} (h : LtL σ ain as0 ts) (e : KS (A.wrap true ain .k r) ts c sz l) (H : Hs B σ0 σ R) :
  ∃ v σ', A.wrap true ain .k r as0 σ = some (v, σ') ∧ Hs B σ0 σ' (Sl (fl c) sz v l * R) := by
 obtain ⟨⟨as', k1, k2, k3⟩, k4, k5⟩ := ltL h
 cases ho : as0.any A.own
 ·obtain ⟨v, σ', e1, K⟩ := ks_at hBB e H
  exact ⟨v, σ', by rw [wrap_nn (k5 ho) ho k4]; exact e1, K⟩
 ·obtain ⟨v, σ1, e1, K⟩ := e [] [] emp (hs_nil [])
  have e2 : r (A.nnL ain ts) [] = some (v, σ1) := by
   unfold A.wrap at e1
   rw [k4, Bool.and_false, cond_false] at e1
   obtain ⟨⟨q1, q2⟩, f1, f2⟩ := Option.map_eq_some_iff.1 e1
   simp only [Prod.mk.injEq, nn_k] at f2
   obtain ⟨rfl, rfl⟩ := f2
   exact f1
  have hfr : ∀ b ∈ σ1, frB b := by
   obtain ⟨⟨bs, hbs, hB⟩, _⟩ := K
   rw [List.nil_append] at hbs
   subst hbs
   exact hB
  have hb : σ1.all A.freshB = true := List.all_eq_true.2 hfr
  have hbb : ∀ b ∈ σ1, B b := fun b hb => hBB b (hfr b hb)
  have hw : ∀ v', A.freshT v = true → A.shiftT σ.length v = v' → A.wrap true ain .k r as0 σ = some (v', σ ++ σ1) := by
   intro v' h1 h2
   unfold A.wrap
   rw [ho, Bool.and_self, cond_true, k1, Option.bind_some, k3, e2, Option.bind_some, nn_k]
   simp only [h1, hb, Bool.and_self, cond_true, h2]
  rcases slf_cases K with ⟨rfl, rfl | rfl, _⟩ | ⟨id, g, rfl, K2⟩
  ·exact ⟨.nsl, _, hw _ rfl rfl, slz (hs_ext H σ1 hbb) (.inl rfl)⟩
  ·exact ⟨.ez, _, hw _ rfl rfl, slz (hs_ext H σ1 hbb) (.inr rfl)⟩
  ·obtain ⟨_, k2⟩ := hs_get K2
   refine ⟨.os (id + σ.length) g sz 0 l.length, _, hw _ rfl rfl, slf_os (hs_add H hbb (by omega) ?_)⟩
   rw [List.getElem?_append_right (by omega), Nat.add_sub_cancel]; exact k2
theorem frB_app {c : α → List AV} (hc : ∀ x, (c x).all A.scal1 = true) (l : List α) : ∀ g g' seg, (seg = [] ∨ frB (.arr g sz seg)) → frB (.arr g' sz (seg ++ l.map c)) := by
 intro g g' seg h
 show ((seg ++ l.map c).all fun e => e.all A.scal1) = true
 rw [List.all_append, Bool.and_eq_true]
 refine ⟨?_, ?_⟩
 ·rcases h with rfl | h
  ·rfl
  ·exact h
 ·rw [List.all_map, List.all_eq_true]; intro x _; exact hc x
theorem frB_ins {ye : List AV} (hc : ye.all A.scal1 = true) : ∀ g g' seg k, (seg = [] ∨ frB (.arr g sz seg)) → frB (.arr g' sz (seg.take k ++ [ye] ++ seg.drop k)) := by
 intro g g' seg k h
 have hs : ∀ e ∈ seg, e.all A.scal1 = true := by
  rcases h with rfl | h
  ·intro e he; cases he
  ·exact List.all_eq_true.1 h
 show A.freshB (.arr g' sz (seg.take k ++ [ye] ++ seg.drop k)) = true
 unfold A.freshB
 rw [List.all_eq_true]
 intro e he
 simp only [List.mem_append, List.mem_singleton] at he
 rcases he with (he | rfl) | he
 ·exact hs e (List.mem_of_mem_take he)
 ·exact hc
 ·exact hs e (List.mem_of_mem_drop he)
theorem frB_del : ∀ g g' seg k, frB (.arr g sz seg) → frB (.arr g' sz (seg.eraseIdx k)) := by
 intro g g' seg k h
 show A.freshB (.arr g' sz (seg.eraseIdx k)) = true
 unfold A.freshB
 rw [List.all_eq_true]
 intro e he
 exact List.all_eq_true.1 h e (List.mem_of_mem_eraseIdx he)
end
def srtE (l : List EntryD) : Prop := l.Pairwise fun a b => ltK a.key b.key = true
def posE (l : List EntryD) (k : KeyD) : Nat := (l.takeWhile fun m => ltK m.key k).length
def hasE (l : List EntryD) (k : KeyD) : Bool := l.any fun m => decide (m.key = k)
theorem posE_le (l : List EntryD) (k : KeyD) : posE l k ≤ l.length := (List.takeWhile_prefix _).length_le
theorem posE_lt {l : List EntryD} {k : KeyD} (h : srtE l) : ∀ {i : Nat} {x : EntryD}, l[i]? = some x → (ltK x.key k = true ↔ i < posE l k) := by
 induction l with
 | nil => intro i x hx; simp at hx
 | cons a l ih =>
  intro i x hx
  have hs := List.pairwise_cons.1 h
  unfold posE
  rw [List.takeWhile_cons]
  cases ha : ltK a.key k
  ·simp only [Bool.false_eq_true, if_false, List.length_nil, Nat.not_lt_zero, iff_false, Bool.not_eq_true]
   cases i with
   | zero => simp at hx; subst hx; exact ha
   | succ i =>
    simp only [List.getElem?_cons_succ] at hx
    have := hs.1 x (List.mem_of_getElem? hx)
    cases hq : ltK x.key k
    ·rfl
    ·rw [ltK_trans this hq] at ha; cases ha
  ·simp only [if_true, List.length_cons]
   cases i with
   | zero => simp at hx; subst hx; simp [ha]
   | succ i =>
    simp only [List.getElem?_cons_succ] at hx
    rw [ih hs.2 hx]
    unfold posE
    omega
theorem posE_at {l : List EntryD} {k : KeyD} (h : srtE l) {i : Nat} {x : EntryD} (hi : l[i]? = some x) (hk : x.key = k) : posE l k = i := by
 have h1 : ¬ i < posE l k := fun q => by
  have := (posE_lt h hi).2 q
  rw [hk, ltK_irr] at this; cases this
 have h2 : ¬ posE l k < i := fun q => by
  have hp : posE l k < l.length := Nat.lt_trans q (List.getElem?_eq_some_iff.1 hi).1
  have hy : l[posE l k]? = some l[posE l k] := List.getElem?_eq_getElem hp
  have h3 : ¬ ltK l[posE l k].key k = true := fun q' => Nat.lt_irrefl _ ((posE_lt h hy).1 q')
  have h4 := List.pairwise_iff_getElem.1 h (posE l k) i hp (List.getElem?_eq_some_iff.1 hi).1 q
  rw [(List.getElem?_eq_some_iff.1 hi).2, hk] at h4
  exact h3 h4
 omega
theorem posE_has {l : List EntryD} {k : KeyD} (h : srtE l) : ((l[posE l k]?).any fun x => decide (x.key = k)) = hasE l k := by
 rw [Bool.eq_iff_iff]
 constructor
 ·intro e
  cases hx : l[posE l k]? with
  | none => rw [hx] at e; cases e
  | some x => rw [hx] at e; exact List.any_eq_true.2 ⟨x, List.mem_of_getElem? hx, e⟩
 ·intro e
  obtain ⟨x, hm, hk⟩ := List.any_eq_true.1 e
  have hk := of_decide_eq_true hk
  obtain ⟨i, hi⟩ := List.mem_iff_getElem?.1 hm
  rw [posE_at h hi hk, hi]; simp [hk]
theorem place5_t {l : List EntryD} (hs : srtE l) (hl : l.length < 4611686018427387904) (k : KeyD) : t_R5_place l k = some ((posE l k : Int), hasE l k) := by
 unfold t_R5_place
 refine (whE_while (l := l) (pr := fun m => ltK m.key k) (fun i x hx => ?_) ?_ rfl).trans ?_
 ·have hi := (List.getElem?_eq_some_iff.1 hx).1
  have hi' : ((i : Int) < (l.length : Int)) := by omega
  have e : (decide (x.key.unit < k.unit) || decide (x.key.unit = k.unit) && Op.bytesLess x.key.param.toList k.param.toList) = ltK x.key k := rfl
  simp only [decide_eq_true hi', if_true, tIx_nat hx, Option.bind_some, wrap64 (show inI ((i : Int) + 1) by unfold inI; omega), Bool.true_and, e]
  cases ltK x.key k <;> simp
 ·simp only [decide_eq_false (by omega : ¬ ((l.length : Int) < (l.length : Int))), Bool.false_eq_true, if_false, Option.bind_some, Bool.false_and]
 ·show ((if decide ((posE l k : Int) < (l.length : Int)) = true then tIx l (posE l k : Int) else some default).bind fun x9 => some ((posE l k : Int), ((decide ((posE l k : Int) < (l.length : Int))) && (decide (x9.key = k))))) = _
  rw [← posE_has hs]
  by_cases hp : posE l k < l.length
  ·have hx : l[posE l k]? = some l[posE l k] := List.getElem?_eq_getElem hp
   have hp' : ((posE l k : Int) < (l.length : Int)) := by omega
   rw [decide_eq_true hp', if_pos rfl, tIx_nat hx, Option.bind_some, hx]
   simp
  ·have hx : l[posE l k]? = none := List.getElem?_eq_none (by omega)
   have hp' : ¬ ((posE l k : Int) < (l.length : Int)) := by omega
   rw [decide_eq_false hp', if_neg (by decide), Option.bind_some, hx]
   simp
def stepE (n : Int) (st : List EntryD) (m : MoveD) : List EntryD :=
 let st1 := if hasE st m.key = true then st.eraseIdx (posE st m.key) else st
 if m.release = true then st1 else st1.take (posE st m.key) ++ [⟨m.key, m.value, n⟩] ++ st1.drop (posE st m.key)
def afterF (st : List EntryD) (c : CueD) : List EntryD := c.moves.foldl (stepE c.number) st
def beforeF (l : List CueD) : List EntryD := l.foldl afterF []
def lookE (st : List EntryD) (k : KeyD) : Option EntryD := st.find? fun e => decide (e.key = k)
theorem stepE_spec {n : Int} {st : List EntryD} (h : srtE st) (m : MoveD) : srtE (stepE n st m) ∧ (∀ k, lookE (stepE n st m) k = if k = m.key then (if m.release = true then none else some ⟨m.key, m.value, n⟩) else lookE st k) ∧ (stepE n st m).length ≤ st.length + 1 := by
 obtain ⟨p, hp⟩ : ∃ p, p = posE st m.key := ⟨_, rfl⟩
 obtain ⟨st1, hst1⟩ : ∃ st1, st1 = if hasE st m.key = true then st.eraseIdx p else st := ⟨_, rfl⟩
 have hple : p ≤ st.length := by rw [hp]; exact posE_le _ _
 have e1 : st1.take p = st.take p := by
  rw [hst1]; split
  ·rw [List.eraseIdx_eq_take_drop_succ, List.take_append_of_le_length (by simp; omega), List.take_take, Nat.min_self]
  ·rfl
 have e2 : st1.drop p = if hasE st m.key = true then st.drop (p + 1) else st.drop p := by
  rw [hst1]; split
  ·rw [List.eraseIdx_eq_take_drop_succ, List.drop_append_of_le_length (by simp; omega), List.drop_of_length_le (by simp; omega), List.nil_append]
  ·rfl
 have hlt : ∀ x ∈ st.take p, ltK x.key m.key = true := fun x hx => by
  obtain ⟨i, hi⟩ := List.mem_iff_getElem?.1 hx
  rw [List.getElem?_take] at hi
  split at hi
  ·rename_i q; exact (posE_lt h hi).2 (by omega)
  ·cases hi
 have hgt : ∀ x ∈ st1.drop p, ltK m.key x.key = true := fun x hx => by
  rw [e2] at hx
  have key : ∀ i, p ≤ i → st[i]? = some x → x.key ≠ m.key → ltK m.key x.key = true := by
   intro i hpi hi hne
   cases hq : ltK m.key x.key
   ·exfalso
    have h1 : ltK x.key m.key = false := by
     cases hq2 : ltK x.key m.key
     ·rfl
     ·have := (posE_lt h hi).1 hq2; omega
    exact hne (ltK_tri h1 hq)
   ·rfl
  split at hx
  ·rename_i hh
   obtain ⟨i, hi⟩ := List.mem_iff_getElem?.1 hx
   rw [List.getElem?_drop] at hi
   refine key _ (by omega) hi fun e => ?_
   have := posE_at h hi e
   omega
  ·rename_i hh
   obtain ⟨i, hi⟩ := List.mem_iff_getElem?.1 hx
   rw [List.getElem?_drop] at hi
   refine key _ (by omega) hi fun e => ?_
   exact hh (List.any_eq_true.2 ⟨x, List.mem_of_getElem? hi, by simp [e]⟩)
 have hs1 : srtE st1 := by
  rw [hst1]; split
  ·exact h.sublist (List.eraseIdx_sublist _ _)
  ·exact h
 have hl1 : st1.length ≤ st.length := by
  rw [hst1]; split
  ·exact List.length_eraseIdx_le _ _
  ·exact Nat.le_refl _
 have hno : ∀ k, k = m.key → lookE st1 k = none := by
  rintro k rfl
  unfold lookE
  rw [List.find?_eq_none]
  intro x hx hk
  have hk := of_decide_eq_true hk
  rw [← List.take_append_drop p st1, List.mem_append] at hx
  rcases hx with hx | hx
  ·rw [e1] at hx
   have := hlt x hx
   rw [hk, ltK_irr] at this; cases this
  ·have := hgt x hx
   rw [hk, ltK_irr] at this; cases this
 have hoth : ∀ k, k ≠ m.key → lookE st1 k = lookE st k := by
  intro k hk
  rw [hst1]; split
  ·rename_i hh
   unfold lookE
   rw [List.eraseIdx_eq_take_drop_succ]
   have hx : st[p]? ≠ none := fun e => by
    have := posE_has (k := m.key) h
    rw [hh, ← hp, e] at this; cases this
   obtain ⟨x, hx⟩ := Option.ne_none_iff_exists'.1 hx
   have hxk : x.key = m.key := by
    have := posE_has (k := m.key) h
    rw [hh, ← hp, hx] at this
    simpa using this
   have e : st = st.take p ++ x :: st.drop (p + 1) := by
    rw [← (List.getElem?_eq_some_iff.1 hx).2, List.getElem_cons_drop, List.take_append_drop]
   conv => rhs; rw [e]
   rw [List.find?_append, List.find?_append, List.find?_cons, decide_eq_false (fun q => hk (by rw [← q, hxk]))]
  ·rfl
 have hdef : stepE n st m = if m.release = true then st1 else st1.take p ++ [⟨m.key, m.value, n⟩] ++ st1.drop p := by
  unfold stepE
  rw [← hp, ← hst1]
 rw [hdef]
 split
 ·rename_i hr
  refine ⟨hs1, fun k => ?_, by omega⟩
  by_cases hk : k = m.key
  ·rw [if_pos hk]; exact hno k hk
  ·rw [if_neg hk]; exact hoth k hk
 ·rename_i hr
  refine ⟨?_, fun k => ?_, by simp; omega⟩
  ·unfold srtE
   rw [List.append_assoc, List.pairwise_append]
   refine ⟨hs1.sublist (List.take_sublist _ _), ?_, fun x hx y hy => ?_⟩
   ·rw [List.singleton_append, List.pairwise_cons]
    exact ⟨fun y hy => hgt y hy, hs1.sublist (List.drop_sublist _ _)⟩
   ·rw [e1] at hx
    rcases List.mem_append.1 hy with hy | hy
    ·simp at hy; subst hy; exact hlt x hx
    ·exact ltK_trans (hlt x hx) (hgt y hy)
  ·by_cases hk : k = m.key
   ·rw [if_pos hk]
    subst hk
    unfold lookE
    rw [List.append_assoc, List.find?_append]
    have : (st1.take p).find? (fun e => decide (e.key = m.key)) = none := by
     rw [List.find?_eq_none]
     intro x hx q
     rw [e1] at hx
     have := hlt x hx
     rw [of_decide_eq_true q, ltK_irr] at this; cases this
    rw [this]
    simp
   ·rw [if_neg hk, ← hoth k hk]
    unfold lookE
    rw [List.append_assoc, List.find?_append, List.singleton_append, List.find?_cons, decide_eq_false (fun q => hk q.symm)]
    conv => rhs; rw [← List.take_append_drop p st1, List.find?_append]
end Go.Proofs.YtphgchakmkankaaGreat

namespace Go.Proofs.YtphgchakmkankaaGreat
set_option linter.unusedSectionVars false
set_option linter.unusedVariables false
set_option linter.unusedSimpArgs false
open HP
section
variable {B : Blk → Prop} {σ0 σ : Heap} {R : HP}
theorem cEntry_scal (x : EntryD) : (cEntry x).all A.scal1 = true := rfl
theorem insE {v : AV} {l : List EntryD} {m : EntryD} {i : Nat} (hi : i ≤ l.length) (hl : l.length < 1099511627776) (H : Hs frB σ0 σ (Sl (fl cEntry) 5 v l * R)) :
  ∃ v' σ', m_slices_Insert_api_Entry [v, .int .i64 (i : Int), .sl 5 [cEntry m]] σ = some (v', σ') ∧ Hs frB σ0 σ' (Sl (fl cEntry) 5 v' (l.take i ++ [m] ++ l.drop i) * R) := by
 obtain ⟨v', σ', e, H2⟩ := sl_ins (most := 140737488355328 / 48) (zs := [(AV.int .i64 0), (AV.str ⟨#[]⟩), (AV.int .i64 0), (AV.int .i64 0), (AV.int .i64 0)]) (rot := m_slices_rotateRight_api_Entry) (B := frB) (E := fl cEntry) (y := m) (ye := cEntry m)
  (hs_eq (show pr (cEntry m = cEntry m) * (Sl (fl cEntry) 5 v l * R) = _ by rw [show fl cEntry (cEntry m) m = pr (cEntry m = cEntry m) from rfl]; ac_rfl) (hs_pr.2 ⟨rfl, H⟩)) hi (by omega) (by omega) (frB_ins (cEntry_scal m))
 refine ⟨v', σ', ?_, H2⟩
 unfold m_slices_Insert_api_Entry A.wrap
 rw [Bool.false_and, cond_false, show A.nnL [] [v, .int .i64 (i : Int), .sl 5 [cEntry m]] = [v, .int .i64 (i : Int), .sl 5 [cEntry m]] by simp [A.nnL]]
 show (r_slices_Insert_api_Entry v (.int .i64 (i : Int)) (.sl 5 [cEntry m]) σ).map _ = _
 rw [show r_slices_Insert_api_Entry v (.int .i64 (i : Int)) (.sl 5 [cEntry m]) σ = some (v', σ') from e]
 simp [nn_k]
theorem delE {v : AV} {l : List EntryD} {i : Nat} {x : EntryD} (hx : l[i]? = some x) (hl : l.length ≤ 1099511627776) (H : Hs frB σ0 σ (Sl (fl cEntry) 5 v l * R)) :
  ∃ v' σ', m_slices_Delete_api_Entry [v, .int .i64 (i : Int), .int .i64 ((i + 1 : Nat) : Int)] σ = some (v', σ') ∧ Hs frB σ0 σ' (Sl (fl cEntry) 5 v' (l.eraseIdx i) * R) := by
 obtain ⟨v', σ', xe, _, e, H2⟩ := sl_del (most := 140737488355328 / 48) (zs := [(AV.int .i64 0), (AV.str ⟨#[]⟩), (AV.int .i64 0), (AV.int .i64 0), (AV.int .i64 0)]) H hx (by omega) (by omega) frB_del
 have H3 := hs_drop (hs_eq (show _ = pr (xe = cEntry x) * (Sl (fl cEntry) 5 v' (l.eraseIdx i) * R) by rw [show fl cEntry xe x = pr (xe = cEntry x) from rfl]; ac_rfl) H2)
 refine ⟨v', σ', ?_, H3⟩
 unfold m_slices_Delete_api_Entry A.wrap
 rw [Bool.false_and, cond_false, show A.nnL [] [v, .int .i64 (i : Int), .int .i64 ((i + 1 : Nat) : Int)] = [v, .int .i64 (i : Int), .int .i64 ((i + 1 : Nat) : Int)] by simp [A.nnL]]
 show (r_slices_Delete_api_Entry v (.int .i64 (i : Int)) (.int .i64 ((i + 1 : Nat) : Int)) σ).map _ = _
 rw [show r_slices_Delete_api_Entry v (.int .i64 (i : Int)) (.int .i64 ((i + 1 : Nat) : Int)) σ = some (v', σ') from e]
 simp [nn_k]
theorem place5_own {v : AV} {l : List EntryD} (H : Hs frB σ0 σ (Sl (fl cEntry) 5 v l * R)) (hs : srtE l) (hl : l.length < 4611686018427387904) (k : KeyD) : m_R5_place [v, .agg (cKey k)] σ = some (.tup [.int .i64 (posE l k : Int), .bool (hasE l k)], σ) :=
 lent (ain := [.s 5]) (ts := [sl 5 cEntry l, .agg (cKey k)]) ⟨lt_slf fz_cEntry (hs_any H), lt_fz (fz_agg (fz_cKey k)) rfl, trivial⟩ (fun σ => h_R5_place (place5_t hs hl k)) rfl
theorem fold_stepE {n : Int} (ms : List MoveD) : ∀ {st : List EntryD}, srtE st → srtE (ms.foldl (stepE n) st) ∧ (ms.foldl (stepE n) st).length ≤ st.length + ms.length := by
 induction ms with
 | nil => intro st h; exact ⟨h, Nat.le_refl _⟩
 | cons m ms ih =>
  intro st h
  obtain ⟨h1, _, h3⟩ := stepE_spec (n := n) h m
  obtain ⟨h4, h5⟩ := ih h1
  exact ⟨h4, by simp only [List.foldl_cons, List.length_cons]; omega⟩
theorem after_s {st : List EntryD} {c : CueD} (hs : srtE st) (hl : st.length + c.moves.length < 1099511627776) (hm : c.moves.length ≤ mxl) : KS m_R5_after [sl 5 cEntry st, .agg (cCue c)] cEntry 5 (afterF st c) := by
 intro σ0 σ R H
 have run : ∃ b : AV × Heap, r_R5_after (sl 5 cEntry st) (.agg (cCue c)) σ = some b ∧ Hs frB σ0 b.2 (Sl (fl cEntry) 5 b.1 (afterF st c) * R) := by
  unfold r_R5_after
  obtain ⟨v, s1, e1, _, K1⟩ := clo_gen (B := frB) (most := 140737488355328 / 48) (m := m_slices_Clone_api_Entry) (r := fun _ _ => none) (r0 := r_slices_Clone_api_Entry) (c := cEntry) (sz := 5) (l := st) rfl (fun _ _ => rfl) (by omega) (frB_app cEntry_scal st) H
  rw [ce_cCue, Option.bind_some, e1, Option.bind_some, show A.part1 10 (cCue c) = some (sl 8 cMove c.moves) from rfl, Option.bind_some, lenS_sl, Option.bind_some]
  refine loop_k (Q := fun q => ∃ h w, q.1 = .exit 0 ∧ q.2.1 = [.lbx (cCue c), h, w] ∧ Hs frB σ0 q.2.2 (Sl (fl cEntry) 5 h (afterF st c) * R)) (loop_hs c.moves (fun i v s => ∃ h, v = [.lbx (cCue c), h, .int .i64 (i : Int)] ∧ Hs frB σ0 s (Sl (fl cEntry) 5 h ((c.moves.take i).foldl (stepE c.number) st) * R)) ?_ ?_ ⟨v, rfl, K1⟩) ?_
  ·rintro i m w s hx ⟨h, rfl, K⟩
   have hi := (List.getElem?_eq_some_iff.1 hx).1
   obtain ⟨q1, q2⟩ := fold_stepE (n := c.number) (c.moves.take i) hs
   rw [foldl_take _ _ _ hx]
   obtain ⟨o, ho⟩ : ∃ o, o = (c.moves.take i).foldl (stepE c.number) st := ⟨_, rfl⟩
   rw [← ho] at q1 q2 K ⊢
   have hol : o.length < 1099511627776 := by simp at q2; omega
   simp only [List.getD_cons_zero, List.getD_cons_succ]
   rw [ix_lt hx, Option.bind_some, cnd_t, ix_for hx, Option.bind_some]
   simp only [A.deref, Option.bind_some]
   rw [pA_cMove, Option.bind_some, ce_cMove, Option.bind_some, sp_cMove m _ rfl, Option.bind_some, pA_cMove_key, Option.bind_some, place5_own K q1 (by omega) m.key, Option.bind_some, ext0, Option.bind_some, ext1, Option.bind_some]
   -- what is there goes
   obtain ⟨p, hp⟩ : ∃ p, p = posE o m.key := ⟨_, rfl⟩
   obtain ⟨o1, ho1⟩ : ∃ o1, o1 = if hasE o m.key = true then o.eraseIdx p else o := ⟨_, rfl⟩
   have hpl : p ≤ o1.length := by
    have := posE_le o m.key
    rw [ho1]; split
    ·rename_i hh
     have hx := posE_has (k := m.key) q1
     rw [hh, ← hp] at hx
     cases hpx : o[p]? with
     | none => rw [hpx] at hx; cases hx
     | some x =>
      have := (List.getElem?_eq_some_iff.1 hpx).1
      rw [List.length_eraseIdx, if_pos this]; omega
    ·omega
   have ho1l : o1.length < 1099511627776 := by
    rw [ho1]; split
    ·have := List.length_eraseIdx_le o p; omega
    ·exact hol
   rw [← hp]
   have del : ∃ h1 s1, (A.cond (.bool (hasE o m.key)) (
     (A.add (.int .i64 (p : Int)) (AV.int .i64 1)).bind fun x19 =>
     (m_slices_Delete_api_Entry [h, .int .i64 (p : Int), x19] s).bind fun r20 =>
     some ([.lbx (cCue c), r20.1, (AV.lbx (cMove m))], r20.2)) (
     some ([.lbx (cCue c), h, (AV.lbx (cMove m))], s))) = some ([.lbx (cCue c), h1, .lbx (cMove m)], s1) ∧ Hs frB σ0 s1 (Sl (fl cEntry) 5 h1 o1 * R) := by
    rw [ho1]
    cases hh : hasE o m.key
    ·exact ⟨h, s, rfl, K⟩
    ·rw [cnd_t, tadd1 (by have := posE_le o m.key; omega), Option.bind_some]
     have hx := posE_has (k := m.key) q1
     rw [hh, ← hp] at hx
     cases hpx : o[p]? with
     | none => rw [hpx] at hx; cases hx
     | some x =>
      obtain ⟨h1, s1, e2, K2⟩ := delE hpx (by omega) K
      rw [e2, Option.bind_some]
      exact ⟨h1, s1, rfl, K2⟩
   obtain ⟨h1, s1, e2, K2⟩ := del
   rw [e2, Option.bind_some]
   simp only [List.getD_cons_zero, List.getD_cons_succ]
   rw [show ((A.lb (.lbx (cMove m))).bind fun _ => some (4)) = some 4 from rfl, Option.bind_some, show ((A.lb (.lbx (cMove m))).bind fun c22 => A.part1 4 c22) = some (.bool m.release) from rfl, Option.bind_some, show A.not (.bool m.release) = some (.bool (!m.release)) from rfl, Option.bind_some]
   have hdef : stepE c.number o m = if m.release = true then o1 else o1.take p ++ [⟨m.key, m.value, c.number⟩] ++ o1.drop p := by
    unfold stepE; rw [← hp, ← ho1]
   rw [hdef]
   cases hr : m.release
   ·rw [show (!false) = true from rfl, cnd_t]
    rw [show ((A.lb (.lbx (cMove m))).bind fun _ => some (0)) = some 0 from rfl, Option.bind_some, show ((A.lb (.lbx (cMove m))).bind fun c27 => A.partA 0 2 c27) = some (.agg (cKey m.key)) from rfl, Option.bind_some,
     show ((A.lb (.lbx (cMove m))).bind fun _ => some (2)) = some 2 from rfl, Option.bind_some, show ((A.lb (.lbx (cMove m))).bind fun c30 => A.partA 2 2 c30) = some (.agg (cValue m.value)) from rfl, Option.bind_some,
     show ((A.lb (.lbx (cCue c))).bind fun _ => some (0)) = some 0 from rfl, Option.bind_some, show ((A.lb (.lbx (cCue c))).bind fun c33 => A.part1 0 c33) = some (.int .i64 c.number) from rfl, Option.bind_some]
    rw [show ((((A.cells 2 (.agg (cKey m.key))).bind fun c35 => (A.splice 0 c35 [(AV.int .i64 0), (AV.str ⟨#[]⟩), (AV.int .i64 0), (AV.int .i64 0), (AV.int .i64 0)]).bind fun c36 => (A.cells 2 (.agg (cValue m.value))).bind fun c37 => (A.splice 2 c37 c36).bind fun c38 => ((A.cell (.int .i64 c.number)).bind fun v => some [v]).bind fun c39 => (A.splice 4 c39 c38).bind fun c40 => some c40).bind fun cs => some (AV.agg cs))) = some (.agg (cEntry ⟨m.key, m.value, c.number⟩)) from rfl, Option.bind_some]
    rw [show ((((A.cells 5 (.agg (cEntry ⟨m.key, m.value, c.number⟩))).bind fun c42 => (A.splice 0 c42 [(AV.int .i64 0), (AV.str ⟨#[]⟩), (AV.int .i64 0), (AV.int .i64 0), (AV.int .i64 0)]).bind fun c43 => some c43).bind fun cs => some (AV.sl 5 (chunks 5 1 cs)))) = some (.sl 5 [cEntry ⟨m.key, m.value, c.number⟩]) from rfl, Option.bind_some]
    obtain ⟨h2, s2, e3, K3⟩ := insE (m := ⟨m.key, m.value, c.number⟩) hpl ho1l K2
    rw [e3, Option.bind_some, Option.bind_some]
    simp only [List.getD_cons_zero, List.getD_cons_succ]
    rw [ix_inc hx hm, Option.bind_some]
    exact ⟨_, _, rfl, h2, rfl, by simpa using K3⟩
   ·rw [show (!true) = false from rfl, cnd_f, Option.bind_some]
    simp only [List.getD_cons_zero, List.getD_cons_succ]
    rw [ix_inc hx hm, Option.bind_some]
    exact ⟨_, _, rfl, h1, rfl, by simpa using K2⟩
  ·rintro w s ⟨h, rfl, K⟩
   simp only [List.getD_cons_zero, List.getD_cons_succ]
   rw [ix_end, Option.bind_some, cnd_f]
   refine ⟨_, rfl, by simp, h, _, rfl, rfl, ?_⟩
   rw [List.take_length] at K; exact K
  ·rintro ⟨e, w, s⟩ ⟨h, w', h1, h2, K⟩
   simp only at h1 h2 K
   subst h1; subst h2
   exact ⟨_, rfl, K⟩
 obtain ⟨⟨v, σ'⟩, h1, h2⟩ := run
 exact ⟨v, σ', wrap_eq rfl h1 (nn_k _), h2⟩
theorem before_inv {l : List CueD} (hl : ∀ c ∈ l, c.moves.length ≤ 2000000) : ∀ (k : Nat) (st : List EntryD), srtE st → st.length ≤ k * 2000000 → srtE (l.foldl afterF st) ∧ (l.foldl afterF st).length ≤ (k + l.length) * 2000000 := by
 induction l with
 | nil => intro k st h1 h2; exact ⟨h1, h2⟩
 | cons c l ih =>
  intro k st h1 h2
  obtain ⟨h3, h4⟩ := fold_stepE (n := c.number) c.moves h1
  have hc := hl c (by simp)
  obtain ⟨h5, h6⟩ := ih (fun x hx => hl x (by simp [hx])) (k + 1) (afterF st c) h3 (by show (c.moves.foldl _ st).length ≤ _; omega)
  refine ⟨h5, ?_⟩
  rw [List.length_cons, show k + (l.length + 1) = k + 1 + l.length from by omega]
  exact h6
theorem after_lent {v : AV} {st : List EntryD} {e : AV} {c : CueD} (hBB : ∀ b, frB b → B b) (hs : srtE st) (hl : st.length + c.moves.length < 1099511627776) (hm : c.moves.length ≤ mxl) (H : Hs B σ0 σ (Sl (fl cEntry) 5 v st * R)) (he : Lt σ (.a shCue) e (.agg (cCue c))) :
  ∃ v' σ', m_R5_after [v, e] σ = some (v', σ') ∧ Hs B σ0 σ' (Sl (fl cEntry) 5 v' (afterF st c) * (Sl (fl cEntry) 5 v st * R)) :=
 lentK hBB (ain := [.s 5, .a shCue]) (ts := [sl 5 cEntry st, .agg (cCue c)]) ⟨lt_slf fz_cEntry (hs_any H), he, trivial⟩ (after_s hs hl hm) H
theorem lt_typed (c : CueD) : Lt σ (.a shCue) (.agg (cCue c)) (.agg (cCue c)) := lt_fz (fz_agg (fz_cCue c)) rfl
theorem Before_s {l : List CueD} {n : Nat} (hn : n ≤ l.length) (hl : l.length ≤ 1000) (hm : ∀ c ∈ l, c.moves.length ≤ 2000000) : KS m_R5_Before [sl 11 cCue l, .int .i64 (n : Int)] cEntry 5 (beforeF (l.take n)) := by
 intro σ0 σ R H
 have run : ∃ b : AV × Heap, r_R5_Before (sl 11 cCue l) (.int .i64 (n : Int)) σ = some b ∧ Hs frB σ0 b.2 (Sl (fl cEntry) 5 b.1 (beforeF (l.take n)) * R) := by
  unfold r_R5_Before
  rw [show A.sliceS 11 (sl 11 cCue l) none (some (.int .i64 (n : Int))) σ = some (sl 11 cCue (l.take n)) from sliceS_take 11 cCue l hn, Option.bind_some, lenS_sl, Option.bind_some]
  obtain ⟨t, ht⟩ : ∃ t, t = l.take n := ⟨_, rfl⟩
  have htl : t.length ≤ 1000 := by rw [ht]; simp; omega
  have htm : ∀ c ∈ t, c.moves.length ≤ 2000000 := fun c hc => hm c (by rw [ht] at hc; exact List.mem_of_mem_take hc)
  rw [← ht]
  refine loop_k (Q := fun q => ∃ h w, q.1 = .exit 0 ∧ q.2.1 = [h, w] ∧ Hs frB σ0 q.2.2 (Sl (fl cEntry) 5 h (beforeF t) * R)) (loop_hs t (fun i v s => ∃ h, v = [h, .int .i64 (i : Int)] ∧ Hs frB σ0 s (Sl (fl cEntry) 5 h (beforeF (t.take i)) * R)) ?_ ?_ ⟨.nsl, rfl, slz H (.inl rfl)⟩) ?_
  ·rintro i c w s hx ⟨h, rfl, K⟩
   have hi := (List.getElem?_eq_some_iff.1 hx).1
   obtain ⟨q1, q2⟩ := before_inv (l := t.take i) (fun c hc => htm c (List.mem_of_mem_take hc)) 0 [] List.Pairwise.nil (Nat.zero_le _)
   have hc := htm c (List.mem_of_getElem? hx)
   have hbl : (beforeF (t.take i)).length ≤ 2000000000 := by
    have : (t.take i).length ≤ 1000 := by simp; omega
    unfold beforeF; omega
   simp only [List.getD_cons_zero, List.getD_cons_succ]
   rw [ix_lt hx, Option.bind_some, cnd_t, ix_for hx, Option.bind_some]
   simp only [A.deref, Option.bind_some]
   rw [pA_cCue, Option.bind_some, ce_cCue, Option.bind_some, sp_cCue _ _ rfl, Option.bind_some, pA_cCue, Option.bind_some]
   have q3 : (beforeF (t.take i)).length + c.moves.length < 1099511627776 := by omega
   have q4 : c.moves.length ≤ mxl := by unfold mxl; omega
   obtain ⟨h', s', e1, K2⟩ := after_lent (fun _ h => h) q1 q3 q4 K (lt_typed c)
   have K3 := hs_drop (hs_eq (show _ = Sl (fl cEntry) 5 h (beforeF (t.take i)) * (Sl (fl cEntry) 5 h' (afterF (beforeF (t.take i)) c) * R) by ac_rfl) K2)
   rw [e1, Option.bind_some, ix_inc hx (by unfold mxl; omega), Option.bind_some]
   refine ⟨_, _, rfl, h', rfl, ?_⟩
   unfold beforeF
   rw [foldl_take _ _ _ hx]
   exact K3
  ·rintro w s ⟨h, rfl, K⟩
   simp only [List.getD_cons_zero, List.getD_cons_succ]
   rw [ix_end, Option.bind_some, cnd_f]
   refine ⟨_, rfl, by simp, h, _, rfl, rfl, ?_⟩
   rw [List.take_length] at K; exact K
  ·rintro ⟨e, w, s⟩ ⟨h, w', h1, h2, K⟩
   simp only at h1 h2 K
   subst h1; subst h2
   exact ⟨_, rfl, K⟩
 obtain ⟨⟨v, σ'⟩, h1, h2⟩ := run
 refine ⟨v, σ', wrap_eq rfl ?_ (nn_k _), h2⟩
 rw [show A.nnL [Sh.e 11 [.k, .k, .k, .k, .k, .k, .k, .s 2, .k, .k, .s 8]] [sl 11 cCue l, .int .i64 (n : Int)] = [sl 11 cCue l, .int .i64 (n : Int)] from nn_arg1 l _]
 exact h1
end
def stepM (n : Int) (s : List (KeyD × EntryD)) (m : MoveD) : List (KeyD × EntryD) := if m.release = true then tdel m.key s else tupd m.key ⟨m.key, m.value, n⟩ s
def stateF (l : List CueD) : List (KeyD × EntryD) := l.foldl (fun s c => c.moves.foldl (stepM c.number) s) []
def nodK (s : List (KeyD × EntryD)) : Prop := (s.map (·.1)).Nodup
theorem tfind_upd {ν : Type} (k k' : KeyD) (v : ν) : ∀ s : List (KeyD × ν), tfind k (tupd k' v s) = if k = k' then some v else tfind k s
 | [] => by by_cases h : k = k' <;> simp [tupd, tfind, h]
 | (a, b) :: s => by
  rw [tupd]
  by_cases h1 : k' = a
  ·subst h1
   simp only [if_true, tfind]
   by_cases h : k = k' <;> simp [h]
  ·rw [if_neg h1, tfind, tfind, tfind_upd k k' v s]
   by_cases h2 : k = a
   ·have : k ≠ k' := fun e => h1 (by rw [← e, h2])
    simp [h2, this]
    intro e; exact absurd (e.symm) h1
   ·simp [h2]
theorem mem_del {ν : Type} {k : KeyD} : ∀ {s : List (KeyD × ν)} {x : KeyD × ν}, x ∈ tdel k s → x ∈ s
 | [], x, h => h
 | (a, b) :: s, x, h => by
  rw [tdel] at h
  split at h
  ·exact List.mem_cons_of_mem _ h
  ·rcases List.mem_cons.1 h with rfl | h
   ·exact List.mem_cons_self
   ·exact List.mem_cons_of_mem _ (mem_del h)
theorem tfind_none {ν : Type} {k : KeyD} : ∀ {s : List (KeyD × ν)}, (∀ p ∈ s, p.1 ≠ k) → tfind k s = none
 | [], _ => rfl
 | (a, b) :: s, h => by
  rw [tfind, if_neg (fun e => h (a, b) (by simp) e.symm)]
  exact tfind_none (fun p hp => h p (by simp [hp]))
theorem tfind_del (k k' : KeyD) : ∀ {s : List (KeyD × EntryD)}, nodK s → tfind k (tdel k' s) = if k = k' then none else tfind k s
 | [], _ => by simp [tdel, tfind]
 | (a, b) :: s, h => by
  unfold nodK at h
  rw [List.map_cons, List.nodup_cons] at h
  rw [tdel]
  by_cases h1 : k' = a
  ·subst h1
   rw [if_pos rfl]
   by_cases h2 : k = k'
   ·subst h2
    rw [if_pos rfl]
    exact tfind_none fun p hp e => h.1 (List.mem_map.2 ⟨p, hp, e⟩)
   ·rw [if_neg h2, tfind, if_neg h2]
  ·rw [if_neg h1, tfind, tfind, tfind_del k k' (s := s) h.2]
   by_cases h2 : k = a
   ·have : k ≠ k' := fun e => h1 (by rw [← e, h2])
    rw [if_pos h2, if_pos h2, if_neg this]
   ·rw [if_neg h2, if_neg h2]
theorem nod_upd {k : KeyD} {v : EntryD} : ∀ {s : List (KeyD × EntryD)}, nodK s → nodK (tupd k v s) ∧ ∀ x ∈ (tupd k v s).map (·.1), x ∈ s.map (·.1) ∨ x = k
 | [], _ => ⟨by simp [nodK, tupd], by simp [tupd]⟩
 | (a, b) :: s, h => by
  unfold nodK at h
  rw [List.map_cons, List.nodup_cons] at h
  rw [tupd]
  split
  ·rename_i e
   subst e
   exact ⟨by unfold nodK; rw [List.map_cons, List.nodup_cons]; exact h, fun x hx => .inl hx⟩
  ·rename_i e
   obtain ⟨h1, h2⟩ := nod_upd (k := k) (v := v) h.2
   refine ⟨?_, fun x hx => ?_⟩
   ·unfold nodK
    rw [List.map_cons, List.nodup_cons]
    refine ⟨fun hm => ?_, h1⟩
    rcases h2 _ hm with h3 | h3
    ·exact h.1 h3
    ·exact e h3.symm
   ·rw [List.map_cons] at hx ⊢
    rcases List.mem_cons.1 hx with rfl | hx
    ·exact .inl List.mem_cons_self
    ·rcases h2 x hx with h3 | h3
     ·exact .inl (List.mem_cons_of_mem _ h3)
     ·exact .inr h3
theorem nod_del {k : KeyD} : ∀ {s : List (KeyD × EntryD)}, nodK s → nodK (tdel k s)
 | [], h => h
 | (a, b) :: s, h => by
  unfold nodK at h
  rw [List.map_cons, List.nodup_cons] at h
  rw [tdel]
  split
  ·exact h.2
  ·unfold nodK
   rw [List.map_cons, List.nodup_cons]
   refine ⟨fun hm => ?_, nod_del h.2⟩
   obtain ⟨p, hp, e⟩ := List.mem_map.1 hm
   exact h.1 (List.mem_map.2 ⟨p, mem_del hp, e⟩)
def SameS (s : List (KeyD × EntryD)) (st : List EntryD) : Prop := nodK s ∧ srtE st ∧ ∀ k, tfind k s = lookE st k
theorem same_step {n : Int} {s : List (KeyD × EntryD)} {st : List EntryD} (h : SameS s st) (m : MoveD) : SameS (stepM n s m) (stepE n st m) := by
 obtain ⟨h1, h2, h3⟩ := h
 obtain ⟨k1, k2, _⟩ := stepE_spec (n := n) h2 m
 unfold stepM
 refine ⟨?_, k1, fun k => ?_⟩
 ·split
  ·exact nod_del h1
  ·exact (nod_upd h1).1
 ·rw [k2 k]
  split
  ·rw [tfind_del k m.key h1, h3 k]
  ·rw [tfind_upd, h3 k]
theorem same_fold {n : Int} : ∀ (ms : List MoveD) {s : List (KeyD × EntryD)} {st : List EntryD}, SameS s st → SameS (ms.foldl (stepM n) s) (ms.foldl (stepE n) st)
 | [], _, _, h => h
 | m :: ms, _, _, h => same_fold ms (same_step h m)
theorem same_all : ∀ (l : List CueD) {s : List (KeyD × EntryD)} {st : List EntryD}, SameS s st → SameS (l.foldl (fun s c => c.moves.foldl (stepM c.number) s) s) (l.foldl afterF st)
 | [], _, _, h => h
 | c :: l, _, _, h => same_all l (same_fold c.moves h)
theorem same_state (l : List CueD) : SameS (stateF l) (beforeF l) := same_all l ⟨List.Pairwise.nil, List.Pairwise.nil, fun k => rfl⟩
theorem state_t {l : List CueD} (hl : l.length ≤ mxl) (hm : ∀ c ∈ l, c.moves.length ≤ mxl) : t_cue_state l = some (stateF l) := by
 unfold t_cue_state stateF
 rw [forE_fold (g := fun s c => c.moves.foldl (stepM c.number) s) (P := fun _ _ => True) hl trivial (fun _ _ _ _ _ => trivial) ?_]
 ·rfl
 intro i c s hc _
 rw [forE_fold (g := fun s m => stepM c.number s m) (P := fun _ _ => True) (hm c (List.mem_of_getElem? hc)) trivial (fun _ _ _ _ _ => trivial) ?_]
 ·rfl
 intro j m s hm _
 unfold stepM
 by_cases hr : m.release = true <;> simp [hr]
end Go.Proofs.YtphgchakmkankaaGreat

namespace Go.Proofs.YtphgchakmkankaaGreat
set_option linter.unusedSectionVars false
set_option linter.unusedVariables false
set_option linter.unusedSimpArgs false
open HP
theorem blk_at {l : List CueD} : ∀ (i j : Nat), scanL (fun j c => if c.block = true then some j else none) l i = some j → i ≤ j ∧ j < i + l.length := by
 induction l with
 | nil => intro i j h; cases h
 | cons x l ih =>
  intro i j h
  rw [scanL] at h
  cases hb : x.block
  ·rw [hb] at h; simp only [Bool.false_eq_true, if_false] at h
   have := ih (i + 1) j h
   simp only [List.length_cons]; omega
  ·rw [hb] at h; simp only [if_true, Option.some.injEq] at h
   simp only [List.length_cons]; omega
theorem scan_none {l : List CueD} (k : KeyD) : ∀ (i i' : Nat), scanL (fun j c => if c.block = true then some j else none) l i = none → (scanL (fun j c => if hasM c.moves k = true then some (-1) else if c.block = true then some (j : Int) else none) l i').getD (-1) = -1 := by
 induction l with
 | nil => intro i i' _; rfl
 | cons x l ih =>
  intro i i' h
  rw [scanL] at h ⊢
  cases hb : x.block
  ·rw [hb] at h; simp only [Bool.false_eq_true, if_false] at h
   cases hasM x.moves k
   ·simp only [Bool.false_eq_true, if_false]; exact ih (i + 1) (i' + 1) h
   ·rfl
  ·rw [hb] at h; simp at h
theorem scan_some {l : List CueD} (k : KeyD) : ∀ (i j : Nat), scanL (fun j c => if c.block = true then some j else none) l i = some j →
  (scanL (fun j c => if hasM c.moves k = true then some (-1) else if c.block = true then some (j : Int) else none) l (i + 1)).getD (-1) = if ((l.take (j + 1 - i)).any fun c => hasM c.moves k) = true then -1 else ((j + 1 : Nat) : Int) := by
 induction l with
 | nil => intro i j h; cases h
 | cons x l ih =>
  intro i j h
  rw [scanL] at h ⊢
  cases hb : x.block
  ·rw [hb] at h; simp only [Bool.false_eq_true, if_false] at h
   have hj := (blk_at (i + 1) j h).1
   rw [show j + 1 - i = (j + 1 - (i + 1)) + 1 by omega, List.take_succ_cons, List.any_cons]
   cases hasM x.moves k
   ·simp only [Bool.false_eq_true, if_false, Bool.false_or]
    exact ih (i + 1) j h
   ·simp
  ·rw [hb] at h; simp only [if_true, Option.some.injEq] at h
   subst h
   rw [show i + 1 - i = 0 + 1 by omega, List.take_succ_cons, List.take_zero]
   cases hm : hasM x.moves k <;> simp [hm]
theorem drop_erase {α : Type} (l : List α) (a : Nat) (h : a ≤ l.length) : (l.eraseIdx a).drop a = l.drop (a + 1) := by
 rw [List.eraseIdx_eq_take_drop_succ, List.drop_append_of_le_length (by simp; omega), List.drop_of_length_le (by simp; omega), List.nil_append]
theorem setMv_erase {l : List CueD} {a k : Nat} (ha : a < l.length) (h : a ≤ k) (g : List MoveD → List MoveD) : (setMv l (k + 1) g).eraseIdx a = setMv (l.eraseIdx a) k g := by
 have e : (l.eraseIdx a)[k]? = l[k + 1]? := by rw [List.getElem?_eraseIdx, if_neg (by omega)]
 unfold setMv
 rw [e]
 split
 ·apply List.ext_getElem?
  intro j
  rw [List.getElem?_eraseIdx, List.getElem?_set, List.getElem?_set, List.getElem?_set, List.getElem?_eraseIdx]
  have hl : (l.eraseIdx a).length = l.length - 1 := by rw [List.length_eraseIdx, if_pos ha]
  by_cases hj : j < a
  ·rw [if_pos hj, if_pos hj, if_neg (by omega), if_neg (by omega)]
  ·rw [if_neg hj, if_neg hj]
   by_cases hk : k = j
   ·subst hk
    rw [if_pos rfl, if_pos rfl, hl]
    by_cases hkl : k + 1 < l.length
    ·rw [if_pos hkl, if_pos (by omega)]
    ·rw [if_neg hkl, if_neg (by omega)]
   ·rw [if_neg (by omega), if_neg hk]
 ·rfl
theorem blk_setMv (g : List MoveD → List MoveD) : ∀ (l : List CueD) (k i : Nat), scanL (fun j c => if c.block = true then some j else none) (setMv l k g) i = scanL (fun j c => if c.block = true then some j else none) l i
 | [], k, i => by simp [setMv]
 | x :: l, 0, i => by simp only [setMv, List.getElem?_cons_zero, List.set_cons_zero, scanL]
 | x :: l, k + 1, i => by
  have e : setMv (x :: l) (k + 1) g = x :: setMv l k g := by
   unfold setMv
   rw [List.getElem?_cons_succ]
   split <;> rfl
  rw [e, scanL, scanL, blk_setMv g l k (i + 1)]
theorem drop_setMv (g : List MoveD → List MoveD) : ∀ (l : List CueD) (k a : Nat), a ≤ k → (setMv l k g).drop a = setMv (l.drop a) (k - a) g := by
 intro l k a h
 unfold setMv
 rw [List.getElem?_drop, show a + (k - a) = k by omega]
 split
 ·rw [List.drop_set, if_neg (by omega)]
 ·rfl
def selF (way : Int) (a : Nat) (o : List CueD) : Option Nat := if way = 1 then blkF o a else some a
theorem sel_step {way : Int} {a nx : Nat} {o : List CueD} (h : a ≤ nx) (m : MoveD) : selF way a (delStep a nx o m) = selF way a o := by
 unfold selF delStep
 split
 ·split
  ·rfl
  ·unfold blkF
   rw [drop_setMv _ _ _ _ h, blk_setMv]
 ·rfl
theorem step_eq {out : List CueD} {a nx : Nat} {way : Int} {m : MoveD} (ha : a < out.length) (hlt : nx < (out.eraseIdx a).length) (hsel : selF way a (out.eraseIdx a) = some nx) : (delStep5 a way out m).eraseIdx a = delStep a nx (out.eraseIdx a) m := by
 have hl : (out.eraseIdx a).length = out.length - 1 := by rw [List.length_eraseIdx, if_pos ha]
 unfold delStep5 delStep
 rw [drop_erase _ _ (by omega)]
 unfold selF at hsel
 by_cases hw : way = 1
 ·rw [if_pos hw] at hsel
  unfold blkF at hsel
  rw [drop_erase _ _ (by omega)] at hsel
  have han := (blk_at _ _ hsel).1
  have hk : k5F out a way m = if (((out.drop (a + 1)).take (nx + 1 - a)).any fun c => hasM c.moves m.key) = true then -1 else ((nx + 1 : Nat) : Int) := by
   unfold k5F blkK
   rw [if_pos hw]
   exact scan_some m.key a nx hsel
  cases hc : ((out.drop (a + 1)).take (nx + 1 - a)).any fun c => hasM c.moves m.key
  ·rw [hc] at hk
   simp only [Bool.false_eq_true, if_false] at hk
   rw [hk, if_neg (by omega), Int.toNat_natCast]
   have hno : ((out[nx + 1]?).any fun c => hasM c.moves m.key) = false := by
    have hx : out[nx + 1]? = some out[nx + 1] := List.getElem?_eq_getElem (by omega)
    rw [hx, Option.any_some, Bool.eq_false_iff]
    intro hq
    rw [Bool.eq_false_iff] at hc
    refine hc (List.any_eq_true.2 ⟨out[nx + 1], List.mem_of_getElem? (i := nx - a) ?_, hq⟩)
    rw [List.getElem?_take_of_lt (by omega), List.getElem?_drop, show a + 1 + (nx - a) = nx + 1 by omega, hx]
   rw [hno]
   simp only [Bool.false_eq_true, if_false]
   exact setMv_erase ha han _
  ·rw [hc] at hk
   simp only [if_true] at hk
   rw [hk, if_pos (.inl (by decide)), if_pos rfl]
 ·rw [if_neg hw] at hsel
  injection hsel with hsel
  subst hsel
  have hk : k5F out a way m = ((a + 1 : Nat) : Int) := by unfold k5F; rw [if_neg hw]
  rw [hk, if_neg (by omega), Int.toNat_natCast]
  have hx : out[a + 1]? = some out[a + 1] := List.getElem?_eq_getElem (by omega)
  have hd : (out.drop (a + 1)).take (a + 1 - a) = [out[a + 1]] := by
   rw [show a + 1 - a = 1 by omega, List.drop_eq_getElem_cons (by omega)]; rfl
  rw [hd, hx, Option.any_some, List.any_cons, List.any_nil, Bool.or_false]
  cases hasM out[a + 1].moves m.key
  ·simp only [Bool.false_eq_true, if_false]
   exact setMv_erase ha (Nat.le_refl a) _
  ·rfl
theorem step_no {out : List CueD} {a : Nat} {way : Int} {m : MoveD} (ha : a < out.length) (hsel : ∀ nx, selF way a (out.eraseIdx a) = some nx → ¬ nx < (out.eraseIdx a).length) : delStep5 a way out m = out := by
 have hl : (out.eraseIdx a).length = out.length - 1 := by rw [List.length_eraseIdx, if_pos ha]
 unfold delStep5
 unfold selF at hsel
 by_cases hw : way = 1
 ·have hb : blkF (out.eraseIdx a) a = none := by
   cases hb : blkF (out.eraseIdx a) a with
   | none => rfl
   | some nx =>
    have h1 := hsel nx (by rw [if_pos hw, hb])
    have h2 := (blk_at _ _ hb).2
    rw [List.length_drop] at h2
    omega
  unfold blkF at hb
  rw [drop_erase _ _ (by omega)] at hb
  have hk : k5F out a way m = -1 := by
   unfold k5F blkK
   rw [if_pos hw]
   exact scan_none m.key a (a + 1) hb
  rw [hk, if_pos (.inl (by decide))]
 ·have h1 := hsel a (by rw [if_neg hw])
  have hk : k5F out a way m = ((a + 1 : Nat) : Int) := by unfold k5F; rw [if_neg hw]
  rw [hk, if_pos (.inr (by omega))]
theorem del_eq {l : List CueD} {a : Nat} (ha : a < l.length) (way : Int) : delF5 l a way = delF l a way := by
 have yes : ∀ (ms : List MoveD) (out : List CueD) (nx : Nat), a < out.length → nx < (out.eraseIdx a).length → selF way a (out.eraseIdx a) = some nx → (ms.foldl (delStep5 a way) out).eraseIdx a = ms.foldl (delStep a nx) (out.eraseIdx a) := by
  intro ms
  induction ms with
  | nil => intro out nx _ _ _; rfl
  | cons m ms ih =>
   intro out nx h1 h2 h3
   have hs := step_eq (m := m) h1 h2 h3
   have han : a ≤ nx := by
    unfold selF at h3
    split at h3
    ·exact (blk_at _ _ h3).1
    ·injection h3 with h3; omega
   rw [List.foldl_cons, List.foldl_cons, ← hs]
   refine ih _ nx (by rw [step5_len]; exact h1) ?_ ?_
   ·rw [hs, delStep_len]; exact h2
   ·rw [hs, sel_step han]; exact h3
 have no : ∀ (ms : List MoveD) (out : List CueD), a < out.length → (∀ nx, selF way a (out.eraseIdx a) = some nx → ¬ nx < (out.eraseIdx a).length) → ms.foldl (delStep5 a way) out = out := by
  intro ms
  induction ms with
  | nil => intro out _ _; rfl
  | cons m ms ih =>
   intro out h1 h2
   rw [List.foldl_cons, step_no h1 h2]
   exact ih out h1 h2
 unfold delF5 delF
 simp only
 cases hs : selF way a (l.eraseIdx a) with
 | none =>
  rw [no _ l ha (fun nx h => by rw [hs] at h; cases h)]
  unfold selF at hs
  rw [hs]
 | some nx =>
  by_cases hn : nx < (l.eraseIdx a).length
  ·rw [yes _ l nx ha hn hs]
   unfold selF at hs
   rw [hs]
   simp only [if_pos hn]
  ·rw [no _ l ha (fun nx' h => by rw [hs] at h; injection h with h; subst h; exact hn)]
   unfold selF at hs
   rw [hs]
   simp only [if_neg hn]
theorem At5_pos {l : List CueD} (hg : Good l) (n : Int) : idxI (fun c => decide (c.number = n)) l = if hasC l n = true then (posC l n : Int) else -1 := by
 rcases idxI_cases (fun c : CueD => decide (c.number = n)) l with ⟨h1, h2, _⟩ | ⟨k, x, h1, h2, h3, _, _⟩
 ·have : hasC l n = false := by
   rw [Bool.eq_false_iff]; intro e
   obtain ⟨x, hx, hp⟩ := List.any_eq_true.1 e
   rw [h2 x hx] at hp; cases hp
  rw [this, h1]; rfl
 ·have : hasC l n = true := List.any_eq_true.2 ⟨x, List.mem_of_getElem? h1, h2⟩
  rw [this, if_pos rfl, h3, posC_at hg.srt h1 (of_decide_eq_true h2)]
theorem RDelete_s {l : List CueD} (hl : okL okCue l) (n way : Int) (σ : Heap) : m_R5_Delete [sl 11 cCue l, .int .i64 n, .int .i64 way] σ = some (.tup [sl 11 cCue (delRes l n way).1, .int .i64 (delRes l n way).2], σ) := by
 have run : ∃ b, r_R5_Delete (sl 11 cCue l) (.int .i64 n) (.int .i64 way) σ = some b ∧ b.2 = σ ∧ A.nn (.t [(.e 11 shCue), .k]) b.1 = .tup [sl 11 cCue (delRes l n way).1, .int .i64 (delRes l n way).2] := by
  unfold r_R5_Delete delRes
  rw [h_R5_CheckForm (CheckForm5_t l hl), Option.bind_some, aNeI, Option.bind_some]
  by_cases hf : formF l = 0
  case neg =>
   rw [decide_eq_true hf, cnd_t, if_pos hf]
   exact ⟨_, fin_same _ _, rfl, nn_nil⟩
  have hg := good_of hf
  rw [decide_eq_false (by simp [hf]), cnd_f, if_neg (by simp [hf])]
  rw [h_R5_At (At_t l hl.1 n), Option.bind_some, At5_pos hg, tlss0, Option.bind_some]
  cases hh : hasC l n
  ·simp only [Bool.false_eq_true, if_false, show decide ((-1 : Int) < 0) = true from rfl, cnd_t, if_true]
   exact ⟨_, fin_same _ _, rfl, nn_nil⟩
  ·simp only [if_true, Bool.true_eq_false, if_false]
   rw [decide_eq_false (by omega), cnd_f, Within1_eq, Option.bind_some, show A.not (.bool (withinB way 1 2)) = some (.bool (!withinB way 1 2)) from rfl, Option.bind_some]
   by_cases hw : way = 1 ∨ way = 2
   case neg =>
    have : withinB way 1 2 = false := by unfold withinB; rw [decide_eq_false]; omega
    rw [this, if_pos hw, show (!false) = true from rfl, cnd_t]
    exact ⟨_, fin_same _ _, rfl, nn_nil⟩
   have : withinB way 1 2 = true := by unfold withinB; rw [decide_eq_true]; omega
   rw [this, if_neg (fun h => h hw), show (!true) = false from rfl, cnd_f]
   obtain ⟨x, hx, _⟩ := hasC_at hg hh
   have hal := (List.getElem?_eq_some_iff.1 hx).1
   obtain ⟨k1, k2⟩ := okC_del hl.2 (inv_good hg) hx way
   have := Delete5_s hl hx hg way (n := n) (by rw [del_eq hal]; exact okL_of k1 k2) σ
   rw [del_eq hal] at this
   exact this
 obtain ⟨⟨b, s⟩, h1, h2, h3⟩ := run
 simp only at h2 h3
 subst h2
 refine wrap_eq rfl ?_ h3
 rw [show A.nnL [Sh.e 11 [.k, .k, .k, .k, .k, .k, .k, .s 2, .k, .k, .s 8]] [sl 11 cCue l, .int .i64 n, .int .i64 way] = [sl 11 cCue l, .int .i64 n, .int .i64 way] from nn_arg1 l _]
 exact h1
end Go.Proofs.YtphgchakmkankaaGreat

namespace Go.Proofs.YtphgchakmkankaaGreat
set_option linter.unusedSectionVars false
set_option linter.unusedVariables false
set_option linter.unusedSimpArgs false
open HP
def newCue (n : Int) : CueD := ⟨n, ⟨#[]⟩, 0, 0, 0, 0, ⟨1, []⟩, false, -1, []⟩
def newRow (n : Int) : List AV := cCueH (newCue n) .nsl .nsl
def insAt (l : List CueD) (i : Nat) (c : CueD) : List CueD := l.take i ++ [c] ++ l.drop i
theorem row_key (k : KeyD) : (((A.cells 2 (.agg (cKey k))).bind fun c12 => (A.splice 0 c12 [(AV.int .i64 0), (AV.str ⟨#[]⟩)]).bind fun c13 => some c13).bind fun cs => some (AV.sl 2 (chunks 2 1 cs))) = some (.sl 2 [cKey k]) := rfl
theorem cKey_scal (x : KeyD) : (cKey x).all A.scal1 = true := rfl
def mvOf (k : KeyD) (o : Option EntryD) : MoveD := match o with
 | some e => ⟨k, e.value, false, false, 0, 0⟩
 | none => ⟨k, ⟨0, 0⟩, true, false, 0, 0⟩
theorem mvOf_key (k : KeyD) (o : Option EntryD) : (mvOf k o).key = k := by cases o <;> rfl
theorem move_t (st : List (KeyD × EntryD)) (k : KeyD) : t_cue_move st k = some (mvOf k (tfind k st)) := by
 unfold t_cue_move
 cases tfind k st <;> rfl
theorem look_pos {st : List EntryD} (h : srtE st) {k : KeyD} (hh : hasE st k = true) : ∃ x, st[posE st k]? = some x ∧ lookE st k = some x := by
 have hx := posE_has (k := k) h
 rw [hh] at hx
 cases hp : st[posE st k]? with
 | none => rw [hp] at hx; cases hx
 | some x =>
  refine ⟨x, rfl, ?_⟩
  unfold lookE
  cases hf : st.find? fun e => decide (e.key = k) with
  | none =>
   rw [hp] at hx
   have := List.find?_eq_none.1 hf x (List.mem_of_getElem? hp)
   simp only [Option.any_some] at hx
   exact absurd hx this
  | some y =>
   have h1 := List.find?_some hf
   obtain ⟨j, hj⟩ := List.mem_iff_getElem?.1 (List.mem_of_find?_eq_some hf)
   have := posE_at h hj (of_decide_eq_true h1)
   rw [← this, hp] at hj
   exact hj.symm
theorem look_no {st : List EntryD} {k : KeyD} (hh : hasE st k = false) : lookE st k = none := by
 unfold lookE
 rw [List.find?_eq_none]
 intro x hx hk
 rw [Bool.eq_false_iff] at hh
 exact hh (List.any_eq_true.2 ⟨x, hx, hk⟩)
theorem valued_t {st : List EntryD} (hs : srtE st) (hl : st.length < 4611686018427387904) (k : KeyD) : t_R5_valued st k = some (mvOf k (lookE st k)) := by
 unfold t_R5_valued
 rw [place5_t hs hl, Option.bind_some]
 cases hh : hasE st k
 ·rw [look_no hh]; rfl
 ·obtain ⟨x, h1, h2⟩ := look_pos hs hh
  simp only [if_true]
  rw [tIx_nat h1, h2]; rfl
def restP (g : KeyD → MoveD) (ms : List MoveD) (k : KeyD) : List MoveD := if hasM ms k = true then ms else putM ms (g k)
theorem restP_srt {g : KeyD → MoveD} {ms : List MoveD} (h : srtM ms) (k : KeyD) : srtM (restP g ms k) ∧ (restP g ms k).length ≤ ms.length + 1 := by
 unfold restP
 split
 ·exact ⟨h, by omega⟩
 ·exact ⟨srt_put h _, put_len _ _⟩
theorem rest_fold {g : KeyD → MoveD} : ∀ (ks : List KeyD) {ms : List MoveD}, srtM ms → srtM (ks.foldl (restP g) ms) ∧ (ks.foldl (restP g) ms).length ≤ ms.length + ks.length
 | [], _, h => ⟨h, Nat.le_refl _⟩
 | k :: ks, ms, h => by
  obtain ⟨h1, h2⟩ := restP_srt (g := g) h k
  obtain ⟨h3, h4⟩ := rest_fold (g := g) ks h1
  exact ⟨h3, by simp only [List.foldl_cons, List.length_cons]; omega⟩
section
variable {σ0 σ : Heap} {R : HP}
theorem insC {v : AV} {l : List CueD} {c : CueD} {e : List AV} {i : Nat} (hi : i ≤ l.length) (hl : l.length < 1000000) (H : Hs anyB σ0 σ (Sl CueE 11 v l * (CueE e c * R))) :
  ∃ v' σ', m_slices_Insert_api_Cue [v, .int .i64 (i : Int), .sl 11 [e]] σ = some (v', σ') ∧ Hs anyB σ0 σ' (Sl CueE 11 v' (insAt l i c) * R) := by
 obtain ⟨v', σ', e1, H2⟩ := sl_ins (most := 140737488355328 / 128) (zs := [(AV.int .i64 0), (AV.str ⟨#[]⟩), (AV.int .i64 0), (AV.int .i64 0), (AV.int .i64 0), (AV.int .i64 0), (AV.int .i64 0), AV.nsl, (AV.bool false), (AV.int .i64 0), AV.nsl]) (rot := m_slices_rotateRight_api_Cue) (B := anyB) (E := CueE) (y := c) (ye := e) H hi (by omega) (by omega) (fun _ _ _ _ _ => trivial)
 refine ⟨v', σ', ?_, H2⟩
 unfold m_slices_Insert_api_Cue A.wrap
 rw [Bool.false_and, cond_false, show A.nnL [] [v, .int .i64 (i : Int), .sl 11 [e]] = [v, .int .i64 (i : Int), .sl 11 [e]] by simp [A.nnL]]
 show (r_slices_Insert_api_Cue v (.int .i64 (i : Int)) (.sl 11 [e]) σ).map _ = _
 rw [show r_slices_Insert_api_Cue v (.int .i64 (i : Int)) (.sl 11 [e]) σ = some (v', σ') from e1]
 simp [nn_k]
theorem At5_own {v : AV} {l : List CueD} (H : Hs anyB σ0 σ (Sl CueE 11 v l * R)) (hg : Good l) (n : Int) : m_R5_At [v, .int .i64 n] σ = some (.int .i64 (if hasC l n = true then (posC l n : Int) else -1), σ) :=
 lent (ain := [.e 11 shCue]) (ts := [sl 11 cCue l, .int .i64 n]) ⟨lt_cues H, lt_int _, trivial⟩ (fun σ => by rw [← At5_pos hg]; exact h_R5_At (At_t l (by have := hg.len; unfold mxl; omega) n)) rfl
theorem done_own {v : AV} {o : List CueD} (H : Hs anyB σ0 σ (Sl CueE 11 v o * R)) (ho : okL okCue o) : m_cue_done [v] σ = some (.tup [if formF o = 0 then v else .nsl, .int .i64 (formF o)], σ) := by
 have hf : m_cue_form [v] σ = some (.int .i64 (formF o), σ) := lent (ain := [.e 11 shCue]) (ts := [sl 11 cCue o]) ⟨lt_cues H, trivial⟩ (fun σ => h_cue_form (form_t o ho)) rfl
 unfold m_cue_done A.wrap
 rw [Bool.false_and, cond_false, show A.nnL [] [v] = [v] by simp [A.nnL]]
 show (r_cue_done v σ).map _ = _
 unfold r_cue_done
 rw [hf, Option.bind_some, aNeI, Option.bind_some]
 by_cases hq : formF o = 0
 ·rw [decide_eq_false (by simp [hq]), cnd_f, if_pos hq, hq]; simp [nn_k]
 ·rw [decide_eq_true hq, cnd_t, if_neg hq]; simp [nn_k]
theorem appK {B : Blk → Prop} {v : AV} {l : List KeyD} (k : KeyD) (hl : l.length < 1000000) (hB : ∀ g g' seg, (seg = [] ∨ B (.arr g 2 seg)) → B (.arr g' 2 (seg ++ [cKey k]))) (H : Hs B σ0 σ (Sl (fl cKey) 2 v l * R)) :
  ∃ v' σ', A.append 2 (140737488355328 / 24) v (.sl 2 [cKey k]) σ = some (v', σ') ∧ Hs B σ0 σ' (Sl (fl cKey) 2 v' (l ++ [k]) * R) :=
 sl_app (ys := [cKey k]) (xs := [k]) (hs_eq (show pr (cKey k = cKey k) * (Sl (fl cKey) 2 v l * R) = _ by
  rw [show els (fl cKey) [cKey k] [k] = pr (cKey k = cKey k) * emp from rfl, star_assoc, emp_star]; ac_rfl) (hs_pr.2 ⟨rfl, H⟩)) (by simp; omega) hB
theorem keysOf_s {l : List MoveD} (hl : l.length ≤ 100000) : KS m_cue_keysOf [sl 8 cMove l] cKey 2 (l.map (·.key)) := by
 intro σ0 σ R H
 have run : ∃ b : AV × Heap, r_cue_keysOf (sl 8 cMove l) σ = some b ∧ Hs frB σ0 b.2 (Sl (fl cKey) 2 b.1 (l.map (·.key)) * R) := by
  unfold r_cue_keysOf
  rw [lenS_sl, Option.bind_some]
  refine loop_k (Q := fun q => ∃ h w, q.1 = .exit 0 ∧ q.2.1 = [h, w] ∧ Hs frB σ0 q.2.2 (Sl (fl cKey) 2 h (l.map (·.key)) * R)) (loop_hs l (fun i v s => ∃ h, v = [h, .int .i64 (i : Int)] ∧ Hs frB σ0 s (Sl (fl cKey) 2 h ((l.take i).map (·.key)) * R)) ?_ ?_ ⟨.nsl, rfl, slz H (.inl rfl)⟩) ?_
  ·rintro i m w s hx ⟨h, rfl, K⟩
   have hi := (List.getElem?_eq_some_iff.1 hx).1
   simp only [List.getD_cons_zero, List.getD_cons_succ]
   rw [ix_lt hx, Option.bind_some, cnd_t, ix_for hx, Option.bind_some]
   simp only [A.deref, Option.bind_some]
   rw [pA_cMove, Option.bind_some, ce_cMove, Option.bind_some, sp_cMove m _ rfl, Option.bind_some, pA_cMove_key, Option.bind_some, row_key, Option.bind_some]
   obtain ⟨h', s', e1, K2⟩ := appK m.key (by simp; omega) (frB_app cKey_scal [m.key]) K
   rw [e1, Option.bind_some, ix_inc hx (by unfold mxl; omega), Option.bind_some]
   refine ⟨_, _, rfl, h', rfl, ?_⟩
   rw [List.take_add_one, hx, Option.toList_some, List.map_append]
   exact K2
  ·rintro w s ⟨h, rfl, K⟩
   simp only [List.getD_cons_zero, List.getD_cons_succ]
   rw [ix_end, Option.bind_some, cnd_f]
   refine ⟨_, rfl, by simp, h, _, rfl, rfl, ?_⟩
   rw [List.take_length] at K; exact K
  ·rintro ⟨e, w, s⟩ ⟨h, w', h1, h2, K⟩
   simp only at h1 h2 K
   subst h1; subst h2
   exact ⟨_, rfl, K⟩
 obtain ⟨⟨v, σ'⟩, h1, h2⟩ := run
 exact ⟨v, σ', wrap_eq rfl h1 (nn_k _), h2⟩
end
end Go.Proofs.YtphgchakmkankaaGreat

namespace Go.Proofs.YtphgchakmkankaaGreat
set_option linter.unusedSectionVars false
set_option linter.unusedVariables false
set_option linter.unusedSimpArgs false
open HP
theorem len_insAt {l : List CueD} {i : Nat} (hi : i ≤ l.length) (c : CueD) : (insAt l i c).length = l.length + 1 := by
 unfold insAt; simp; omega
theorem mem_insAt {l : List CueD} {i : Nat} {c x : CueD} (h : x ∈ insAt l i c) : x ∈ l ∨ x = c := by
 unfold insAt at h
 simp only [List.mem_append, List.mem_singleton] at h
 rcases h with (h | h) | h
 ·exact .inl (List.mem_of_mem_take h)
 ·exact .inr h
 ·exact .inl (List.mem_of_mem_drop h)
theorem mem_upd {ν : Type} {k : KeyD} {v : ν} : ∀ {s : List (KeyD × ν)} {x : KeyD × ν}, x ∈ tupd k v s → x ∈ s ∨ x.2 = v
 | [], x, h => by simp [tupd] at h; exact .inr (by rw [h])
 | (a, b) :: s, x, h => by
  rw [tupd] at h
  split at h
  ·rcases List.mem_cons.1 h with rfl | h
   ·exact .inr rfl
   ·exact .inl (List.mem_cons_of_mem _ h)
  ·rcases List.mem_cons.1 h with rfl | h
   ·exact .inl List.mem_cons_self
   ·rcases mem_upd h with h | h
    ·exact .inl (List.mem_cons_of_mem _ h)
    ·exact .inr h
theorem state_ok {P : ValueD → Prop} {l : List CueD} (h : ∀ c ∈ l, ∀ m ∈ c.moves, P m.value) : ∀ p ∈ stateF l, P p.2.value := by
 have inner : ∀ (n : Int) (ms : List MoveD) (s : List (KeyD × EntryD)), (∀ m ∈ ms, P m.value) → (∀ p ∈ s, P p.2.value) → ∀ p ∈ ms.foldl (stepM n) s, P p.2.value := by
  intro n ms
  induction ms with
  | nil => intro s _ h; exact h
  | cons m ms ih =>
   intro s hm hs
   refine ih _ (fun x hx => hm x (by simp [hx])) (fun p hp => ?_)
   unfold stepM at hp
   split at hp
   ·exact hs p (mem_del hp)
   ·rcases mem_upd hp with hp | hp
    ·exact hs p hp
    ·rw [hp]; exact hm m (by simp)
 unfold stateF
 have key : ∀ (l : List CueD) (s : List (KeyD × EntryD)), (∀ c ∈ l, ∀ m ∈ c.moves, P m.value) → (∀ p ∈ s, P p.2.value) → ∀ p ∈ l.foldl (fun s c => c.moves.foldl (stepM c.number) s) s, P p.2.value := by
  intro l
  induction l with
  | nil => intro s _ h; exact h
  | cons c l ih =>
   intro s hl hs
   exact ih _ (fun x hx => hl x (by simp [hx])) (inner c.number c.moves s (hl c (by simp)) hs)
 exact key l [] h (by simp)
theorem mem_tfind {ν : Type} {k : KeyD} : ∀ {s : List (KeyD × ν)} {e : ν}, tfind k s = some e → ∃ p ∈ s, p.2 = e
 | [], e, h => by cases h
 | (a, b) :: s, e, h => by
  rw [tfind] at h
  split at h
  ·injection h with h; exact ⟨(a, b), by simp, h⟩
  ·obtain ⟨p, hp, q⟩ := mem_tfind h
   exact ⟨p, List.mem_cons_of_mem _ hp, q⟩
theorem inI_0 : inI 0 := by unfold inI; decide
theorem mvOf_ok {k : KeyD} {o : Option EntryD} (hk : okKey k) (ho : ∀ e, o = some e → okValue e.value) : okMove (mvOf k o) := by
 cases o with
 | none => exact ⟨hk, ⟨inI_0, inI_0⟩, inI_0, inI_0⟩
 | some e => exact ⟨hk, ho e rfl, inI_0, inI_0⟩
theorem rest_ok {g : KeyD → MoveD} : ∀ (ks : List KeyD) {ms : List MoveD}, (∀ k ∈ ks, okMove (g k)) → (∀ m ∈ ms, okMove m) → ∀ m ∈ ks.foldl (restP g) ms, okMove m
 | [], ms, _, h => h
 | k :: ks, ms, hk, h => by
  refine rest_ok ks (fun x hx => hk x (by simp [hx])) (fun m hm => ?_)
  unfold restP at hm
  split at hm
  ·exact h m hm
  ·rcases mem_put hm with hm | rfl
   ·exact h m hm
   ·exact hk k (by simp)
end Go.Proofs.YtphgchakmkankaaGreat

namespace Go.Proofs.YtphgchakmkankaaGreat
set_option linter.unusedSectionVars false
set_option linter.unusedVariables false
set_option linter.unusedSimpArgs false
open HP
theorem exb2 {α : Type} {X Y : α} : (bif (AX.exit 2 == AX.exit 2) then X else Y) = X := rfl
theorem row3 (a b c : Int) : ((((A.cell (.int .i64 a)).bind fun v => some [v]).bind fun c6 => (A.splice 0 c6 [(AV.int .i64 0), (AV.int .i64 0), (AV.int .i64 0)]).bind fun c7 => ((A.cell (.int .i64 b)).bind fun v => some [v]).bind fun c8 => (A.splice 1 c8 c7).bind fun c9 => ((A.cell (.int .i64 c)).bind fun v => some [v]).bind fun c10 => (A.splice 2 c10 c9).bind fun c11 => some c11).bind fun cs => some (AV.sl 1 (chunks 1 3 cs))) = some (sl 1 cInt [a, b, c]) := rfl
end Go.Proofs.YtphgchakmkankaaGreat

namespace Go.Proofs.YtphgchakmkankaaGreat
set_option linter.unusedSectionVars false
set_option linter.unusedVariables false
set_option linter.unusedSimpArgs false
open HP
section
variable {σ0 σ : Heap} {R : HP}
theorem put5_at {v : AV} {l : List CueD} {i : Nat} {x : CueD} (hx : l[i]? = some x) (m : MoveD) (hs : srtM x.moves) (hl : x.moves.length < 1000000) (H : Hs anyB σ0 σ (Sl CueE 11 v l * R)) :
  ∃ p q vm v' σ1 σ2, A.iaddr 11 v (.int .i64 (i : Int)) = some p ∧ A.faddr 10 p = some q ∧ ((A.deref q σ).bind fun c => A.part1 0 c) = some vm ∧ m_R5_put [vm, .agg (cMove m)] σ = some (v', σ1) ∧ A.cell v' = some v' ∧ A.storeAt q [v'] σ1 = some σ2 ∧ Hs anyB σ0 σ2 (Sl CueE 11 v (setMv l i (putM · m)) * R) := by
 obtain ⟨p, F, e, f1, hC, K, back⟩ := sl_cell H hx
 obtain ⟨q, vm, b1, b2, _, b4⟩ := put5_cell hC K hs (by omega)
 obtain ⟨v', σ1, σ2, c1, c2, c3, e', K2⟩ := b4 m
 refine ⟨p, q, vm, v', σ1, σ2, f1, b1, b2, c1, c2, c3, ?_⟩
 rw [setMv, hx]
 exact back K2
theorem valued_own {v : AV} {st : List EntryD} (H : Hs anyB σ0 σ (Sl (fl cEntry) 5 v st * R)) (hs : srtE st) (hl : st.length < 4611686018427387904) (k : KeyD) : m_R5_valued [v, .agg (cKey k)] σ = some (.agg (cMove (mvOf k (lookE st k))), σ) :=
 lent (ain := [.s 5]) (ts := [sl 5 cEntry st, .agg (cKey k)]) ⟨lt_slf fz_cEntry H, lt_fz (fz_agg (fz_cKey k)) rfl, trivial⟩ (fun σ => h_R5_valued (valued_t hs hl k)) rfl
theorem restore5_s {p wv : AV} {F : List AV → HP} {e : List AV} {x : CueD} {st : List EntryD} (k : KeyD) (hC : Cl p F) (hs : srtM x.moves) (hl : x.moves.length < 1000000) (hst : srtE st) (hsl : st.length < 4611686018427387904) (H : Hs anyB σ0 σ (F e * (CueE e x * (Sl (fl cEntry) 5 wv st * R)))) :
  ∃ σ' e', m_R5_restore [p, wv, .agg (cKey k)] σ = some (.tup [], σ') ∧ Hs anyB σ0 σ' (F e' * (CueE e' { x with moves := restP (fun y => mvOf y (lookE st y)) x.moves k } * (Sl (fl cEntry) 5 wv st * R))) := by
 have run : ∃ σ' e', r_R5_restore p wv (.agg (cKey k)) σ = some (.tup [], σ') ∧ Hs anyB σ0 σ' (F e' * (CueE e' { x with moves := restP (fun y => mvOf y (lookE st y)) x.moves k } * (Sl (fl cEntry) 5 wv st * R))) := by
  unfold r_R5_restore
  obtain ⟨q, vm, b1, b2, b3, b4⟩ := put5_cell hC H hs (by omega)
  rw [show A.cells 2 (.agg (cKey k)) = some (cKey k) from rfl, Option.bind_some, hC.nc, Option.bind_some, b1, Option.bind_some, b2, Option.bind_some, show A.partA 0 2 (cKey k) = some (.agg (cKey k)) from rfl, Option.bind_some, quiet_of (b3 k), Option.bind_some, ext0, Option.bind_some, ext1, Option.bind_some, show A.not (.bool (hasM x.moves k)) = some (.bool (!hasM x.moves k)) from rfl, Option.bind_some]
  unfold restP
  cases hh : hasM x.moves k
  ·have hv := valued_own (hs_eq (show _ = Sl (fl cEntry) 5 wv st * (F e * (CueE e x * R)) by ac_rfl) H) hst hsl k
   obtain ⟨v', s2, s3, c1, c2, c3, e', K5⟩ := b4 (mvOf k (lookE st k))
   rw [show (!false) = true from rfl, cnd_t]
   simp only [Option.bind_some]
   rw [b1, Option.bind_some, b2, Option.bind_some, quiet_of hv, Option.bind_some, c1, Option.bind_some]
   simp only [Option.bind_some]
   rw [c2, Option.bind_some, Option.bind_some, c3, Option.bind_some, Option.bind_some]
   exact ⟨_, e', rfl, by simpa using K5⟩
  ·rw [show (!true) = false from rfl, cnd_f, Option.bind_some]
   exact ⟨_, e, rfl, by simpa using H⟩
 obtain ⟨σ', e', h1, h2⟩ := run
 refine ⟨σ', e', ?_, h2⟩
 unfold m_R5_restore A.wrap
 rw [Bool.false_and, cond_false, show A.nnL [] [p, wv, .agg (cKey k)] = [p, wv, .agg (cKey k)] by simp [A.nnL]]
 show (r_R5_restore p wv (.agg (cKey k)) σ).map _ = _
 rw [h1]
 simp [nn_k]
theorem num_at {v : AV} {l : List CueD} {i : Nat} {x : CueD} (hx : l[i]? = some x) (H : Hs anyB σ0 σ (Sl CueE 11 v l * R)) : ∃ p q, A.iaddr 11 v (.int .i64 (i : Int)) = some p ∧ A.faddr 0 p = some q ∧ ((A.deref q σ).bind fun c => A.part1 0 c) = some (.int .i64 x.number) := by
 obtain ⟨p, F, e, f1, hC, K, back⟩ := sl_cell H hx
 obtain ⟨vp, vm, he, _⟩ := cueP (hs_eq (show _ = CueP (Sl (fl cMove) 8) e x * (F e * R) by rw [show CueE e x = CueP (Sl (fl cMove) 8) e x from rfl]; ac_rfl) K)
 obtain ⟨q, g1, g2⟩ := faddr_at hC 0 K (vm := .int .i64 x.number) (by rw [he]; rfl)
 exact ⟨p, q, f1, g1, g2⟩
theorem insert5_s {v : AV} {l : List CueD} {c : CueD} {vp vm : AV} (hp : A.cell vp = some vp) (hv : A.cell vm = some vm) (hs : l.Pairwise fun a b => a.number < b.number) (hl : l.length < 1000000) (H : Hs anyB σ0 σ (Sl CueE 11 v l * (CueE (cCueH c vp vm) c * R))) :
  ∃ v' σ', m_R5_insert [v, .agg (cCueH c vp vm)] σ = some (.tup [v', .int .i64 (posC l c.number : Int)], σ') ∧ Hs anyB σ0 σ' (Sl CueE 11 v' (insAt l (posC l c.number) c) * R) := by
 have hple := posC_le l c.number
 have run : ∃ b : AV × Heap, r_R5_insert v (.agg (cCueH c vp vm)) σ = some b ∧ ∃ v', b.1 = .tup [v', .int .i64 (posC l c.number : Int)] ∧ Hs anyB σ0 b.2 (Sl CueE 11 v' (insAt l (posC l c.number) c) * R) := by
  unfold r_R5_insert
  rw [show A.cells 11 (.agg (cCueH c vp vm)) = some (cCueH c vp vm) from rfl, Option.bind_some]
  have hlen : (l.take (posC l c.number)).length = posC l c.number := by simp; omega
  have hlv : A.lenS v = some (.int .i64 (l.length : Int)) := sl_len H
  refine loop_k (Q := fun q => q = (.exit 0, [.lbx (cCueH c vp vm), .int .i64 (posC l c.number : Int)], σ)) (loop_hs (l.take (posC l c.number)) (fun i w s => w = [.lbx (cCueH c vp vm), .int .i64 (i : Int)] ∧ s = σ) ?_ ?_ ⟨rfl, rfl⟩) ?_
  ·rintro i x w s hx ⟨rfl, rfl⟩
   have hi := (List.getElem?_eq_some_iff.1 hx).1
   rw [hlen] at hi
   rw [List.getElem?_take_of_lt hi] at hx
   obtain ⟨p, q, g1, g2, g3⟩ := num_at hx H
   simp only [List.getD_cons_zero, List.getD_cons_succ]
   rw [hlv, Option.bind_some, tlss, Option.bind_some, decide_eq_true (by omega)]
   simp only [A.guard, beq_self_eq_true, cond_true, Option.bind_some, g1, g2, g3, A.lb]
   rw [show A.part1 0 (cCueH c vp vm) = some (.int .i64 c.number) from rfl, Option.bind_some, aLss, decide_eq_true ((posC_lt hs hx).2 hi)]
   simp only [Option.bind_some, A.pick, cond_true, cnd_t]
   rw [tadd1 (by omega), Option.bind_some]
   exact ⟨_, _, rfl, rfl, rfl⟩
  ·rintro w s ⟨rfl, rfl⟩
   rw [hlen]
   simp only [List.getD_cons_zero, List.getD_cons_succ]
   rw [hlv, Option.bind_some, tlss, Option.bind_some]
   by_cases hlt : posC l c.number < l.length
   ·have hx : l[posC l c.number]? = some l[posC l c.number] := List.getElem?_eq_getElem hlt
    obtain ⟨p, q, g1, g2, g3⟩ := num_at hx H
    rw [decide_eq_true hlt]
    simp only [A.guard, beq_self_eq_true, cond_true, Option.bind_some, g1, g2, g3, A.lb]
    rw [show A.part1 0 (cCueH c vp vm) = some (.int .i64 c.number) from rfl, Option.bind_some, aLss, decide_eq_false (fun h => Nat.lt_irrefl _ ((posC_lt hs hx).1 h))]
    simp only [Option.bind_some, A.pick, cond_true, cnd_f]
    exact ⟨_, rfl, by simp, rfl⟩
   ·rw [decide_eq_false hlt]
    simp only [A.guard, show (false == true) = false from rfl, cond_false, Option.bind_some, A.pick, A.lb]
    rw [cnd_f]
    exact ⟨_, rfl, by simp, rfl⟩
  ·rintro q rfl
   simp only [exb, List.getD_cons_zero, List.getD_cons_succ]
   rw [show ((A.lb (.lbx (cCueH c vp vm))).bind fun c20 => A.partA 0 11 c20) = some (.agg (cCueH c vp vm)) from rfl, Option.bind_some, row_cueH, Option.bind_some]
   obtain ⟨v', s2, e2, K2⟩ := insC hple hl H
   rw [e2, Option.bind_some]
   exact ⟨_, rfl, v', rfl, K2⟩
 obtain ⟨⟨b, σ'⟩, h1, v', h2, h3⟩ := run
 simp only at h2 h3
 subst h2
 refine ⟨v', σ', ?_, h3⟩
 unfold m_R5_insert A.wrap
 rw [Bool.false_and, cond_false, show A.nnL [] [v, .agg (cCueH c vp vm)] = [v, .agg (cCueH c vp vm)] by simp [A.nnL]]
 show (r_R5_insert v (.agg (cCueH c vp vm)) σ).map _ = _
 rw [h1]
 simp [nn_k]
end
end Go.Proofs.YtphgchakmkankaaGreat

namespace Go.Proofs.YtphgchakmkankaaGreat
set_option linter.unusedSectionVars false
set_option linter.unusedVariables false
set_option linter.unusedSimpArgs false
open HP
section
variable {σ0 σ : Heap} {R : HP}
theorem set_same {l : List CueD} {i : Nat} {x : CueD} (h : l[i]? = some x) : l.set i x = l := by
 apply List.ext_getElem?
 intro j
 rw [List.getElem?_set]
 split
 ·rename_i e; subst e; rw [h, if_pos (List.getElem?_eq_some_iff.1 h).1]
 ·rfl
end
end Go.Proofs.YtphgchakmkankaaGreat

namespace Go.Proofs.YtphgchakmkankaaGreat
set_option linter.unusedSectionVars false
set_option linter.unusedVariables false
set_option linter.unusedSimpArgs false
open HP
section
variable {σ0 σ : Heap} {R : HP}
theorem appM {B : Blk → Prop} {v : AV} {l : List MoveD} (k : MoveD) (hl : l.length < 1000000) (hB : ∀ g g' seg, (seg = [] ∨ B (.arr g 8 seg)) → B (.arr g' 8 (seg ++ [cMove k]))) (H : Hs B σ0 σ (Sl (fl cMove) 8 v l * R)) :
  ∃ v' σ', A.append 8 (140737488355328 / 64) v (.sl 8 [cMove k]) σ = some (v', σ') ∧ Hs B σ0 σ' (Sl (fl cMove) 8 v' (l ++ [k]) * R) :=
 sl_app (ys := [cMove k]) (xs := [k]) (hs_eq (show pr (cMove k = cMove k) * (Sl (fl cMove) 8 v l * R) = _ by
  rw [show els (fl cMove) [cMove k] [k] = pr (cMove k = cMove k) * emp from rfl, star_assoc, emp_star]; ac_rfl) (hs_pr.2 ⟨rfl, H⟩)) (by simp; omega) hB
end
end Go.Proofs.YtphgchakmkankaaGreat

namespace Go.Proofs.YtphgchakmkankaaGreat
set_option linter.unusedSectionVars false
set_option linter.unusedVariables false
set_option linter.unusedSimpArgs false
open HP
theorem look_fold {n : Int} {k : KeyD} : ∀ (ms : List MoveD) {st : List EntryD}, srtE st → (∀ m ∈ ms, m.key ≠ k) → lookE (ms.foldl (stepE n) st) k = lookE st k
 | [], _, _, _ => rfl
 | m :: ms, st, h, hk => by
  obtain ⟨h1, h2, _⟩ := stepE_spec (n := n) h m
  rw [List.foldl_cons, look_fold ms h1 (fun x hx => hk x (by simp [hx])), h2, if_neg (fun e => hk m (by simp) e.symm)]
theorem no_has {ms : List MoveD} {k : KeyD} (h : hasM ms k = false) : ∀ m ∈ ms, m.key ≠ k := fun m hm e => by
 rw [Bool.eq_false_iff] at h
 exact h (List.any_eq_true.2 ⟨m, hm, by simp [e]⟩)
theorem look_cues {k : KeyD} : ∀ (l : List CueD) {st : List EntryD}, srtE st → (∀ c ∈ l, hasM c.moves k = false) → lookE (l.foldl afterF st) k = lookE st k
 | [], _, _, _ => rfl
 | c :: l, st, h, hk => by
  rw [List.foldl_cons, look_cues l (st := afterF st c) (fold_stepE (n := c.number) c.moves h).1 (fun x hx => hk x (by simp [hx]))]
  exact look_fold c.moves h (no_has (hk c (by simp)))
theorem setMv_id {l : List CueD} {i : Nat} {g : List MoveD → List MoveD} (h : ∀ x, l[i]? = some x → g x.moves = x.moves) : setMv l i g = l := by
 unfold setMv
 split
 ·rename_i x hx
  rw [h x hx]
  exact set_same hx
 ·rfl
theorem setMv_get (l : List CueD) (i j : Nat) (g : List MoveD → List MoveD) : (setMv l i g)[j]? = if i = j then l[j]?.map (fun c => { c with moves := g c.moves }) else l[j]? := by
 by_cases h : i = j
 ·subst h
  rw [if_pos rfl]
  unfold setMv
  split
  ·rename_i x hx
   rw [List.getElem?_set_self (List.getElem?_eq_some_iff.1 hx).1, hx]; rfl
  ·rename_i hx; rw [hx]; rfl
 ·rw [if_neg h, setMv_ne h]
theorem setMv_comm (l : List CueD) {i j : Nat} (h : i ≠ j) (g f : List MoveD → List MoveD) : setMv (setMv l i g) j f = setMv (setMv l j f) i g := by
 apply List.ext_getElem?
 intro k
 rw [setMv_get, setMv_get, setMv_get, setMv_get]
 by_cases h1 : j = k
 ·subst h1; rw [if_pos rfl, if_neg h, if_neg h, if_pos rfl]
 ·rw [if_neg h1, if_neg h1]
theorem setMv_two (l : List CueD) (i : Nat) (g f : List MoveD → List MoveD) : setMv (setMv l i g) i f = setMv l i (fun x => f (g x)) := by
 apply List.ext_getElem?
 intro k
 rw [setMv_get, setMv_get, setMv_get]
 by_cases h1 : i = k
 ·subst h1
  rw [if_pos rfl, if_pos rfl, if_pos rfl]
  cases l[i]? <;> rfl
 ·rw [if_neg h1, if_neg h1, if_neg h1]
theorem rest_same {g g' : KeyD → MoveD} : ∀ (ks : List KeyD) {ms : List MoveD}, srtM ms → (∀ k, (g k).key = k) → (∀ k ∈ ks, hasM ms k = false → g k = g' k) → ks.foldl (restP g) ms = ks.foldl (restP g') ms
 | [], _, _, _, _ => rfl
 | k :: ks, ms, hs, hg, h => by
  have e : restP g ms k = restP g' ms k := by
   unfold restP
   cases hh : hasM ms k
   ·rw [h k (by simp) hh]
   ·rfl
  rw [List.foldl_cons, List.foldl_cons, ← e]
  refine rest_same ks (restP_srt hs k).1 hg (fun x hx hh => h x (by simp [hx]) ?_)
  unfold restP at hh
  split at hh
  ·exact hh
  ·rw [has_put hs] at hh
   rw [Bool.or_eq_false_iff] at hh
   exact hh.1
end Go.Proofs.YtphgchakmkankaaGreat

namespace Go.Proofs.YtphgchakmkankaaGreat
set_option linter.unusedSectionVars false
set_option linter.unusedVariables false
set_option linter.unusedSimpArgs false
open HP
section
variable {σ0 σ : Heap} {R : HP}
theorem fin_slf {α : Type} {c : α → List AV} {sz : Nat} {B : Blk → Prop} {v : AV} {l : List α} (hc : ∀ x, FzL (c x)) (H : Hs B σ0 σ (Sl (fl c) sz v l * R)) : ∃ v', A.fin σ0 v σ = some (v', σ0) ∧ A.nn (.s sz) v' = sl sz c l := by
 obtain ⟨v', h1, h2, h3⟩ := slf_fz H hc (Nat.le_refl _) 7
 refine ⟨v', fin_hs (hs_any H) h1 (fun e => ?_), h3⟩
 rcases slf_cases H with ⟨rfl, rfl | rfl, _⟩ | ⟨id, g, rfl, K⟩
 ·simp [A.frz] at h1; rw [h1]
 ·simp [A.frz] at h1; rw [h1]
 ·obtain ⟨k1, k2⟩ := hs_get K
  have := (List.getElem?_eq_some_iff.1 k2).1
  subst e; omega
end
end Go.Proofs.YtphgchakmkankaaGreat

namespace Go.Proofs.YtphgchakmkankaaGreat
set_option linter.unusedSectionVars false
set_option linter.unusedVariables false
set_option linter.unusedSimpArgs false
open HP
def fmS (st : List (KeyD × EntryD)) : AV := fmE (fun x => (AV.agg (cKey x))) (fun x => (AV.agg (cEntry x))) st
section
variable {σ0 σ : Heap} {R : HP}
end
end Go.Proofs.YtphgchakmkankaaGreat

namespace Go.Proofs.YtphgchakmkankaaGreat
set_option linter.unusedSectionVars false
set_option linter.unusedVariables false
set_option linter.unusedSimpArgs false
def mvK (l : List MoveD) (k : KeyD) : Option MoveD := l.find? fun m => decide (m.key = k)
theorem posM_at {l : List MoveD} {k : KeyD} (h : srtM l) {i : Nat} {x : MoveD} (hi : l[i]? = some x) (hk : x.key = k) : posM l k = i := by
 have h1 : ¬ i < posM l k := fun q => by
  have := (posM_lt h hi).2 q
  rw [hk, ltK_irr] at this; cases this
 have h2 : ¬ posM l k < i := fun q => by
  have hp : posM l k < l.length := Nat.lt_trans q (List.getElem?_eq_some_iff.1 hi).1
  have hy : l[posM l k]? = some l[posM l k] := List.getElem?_eq_getElem hp
  have h3 : ¬ ltK l[posM l k].key k = true := fun q' => Nat.lt_irrefl _ ((posM_lt h hy).1 q')
  have h4 := List.pairwise_iff_getElem.1 h (posM l k) i hp (List.getElem?_eq_some_iff.1 hi).1 q
  rw [(List.getElem?_eq_some_iff.1 hi).2, hk] at h4
  exact h3 h4
 omega
theorem mvK_some {l : List MoveD} (h : srtM l) {k : KeyD} {x : MoveD} : mvK l k = some x ↔ x ∈ l ∧ x.key = k := by
 constructor
 ·intro e
  exact ⟨List.mem_of_find?_eq_some e, of_decide_eq_true (List.find?_some (p := fun m : MoveD => decide (m.key = k)) e)⟩
 ·rintro ⟨hm, hk⟩
  cases e : mvK l k with
  | none =>
   have := List.find?_eq_none.1 e x hm
   simp [hk] at this
  | some y =>
   have hy := List.mem_of_find?_eq_some e
   have hyk : y.key = k := of_decide_eq_true (List.find?_some (p := fun m : MoveD => decide (m.key = k)) e)
   obtain ⟨i, hi⟩ := List.mem_iff_getElem?.1 hm
   obtain ⟨j, hj⟩ := List.mem_iff_getElem?.1 hy
   have e1 := posM_at h hi hk
   have e2 := posM_at h hj hyk
   rw [← e1, e2, hj] at hi
   exact hi
theorem mvK_none {l : List MoveD} {k : KeyD} : mvK l k = none ↔ hasM l k = false := by
 unfold mvK hasM
 rw [List.find?_eq_none, Bool.eq_false_iff, Ne, List.any_eq_true]
 constructor
 ·rintro h ⟨x, h1, h2⟩; exact h x h1 h2
 ·intro h x h1 h2; exact h ⟨x, h1, h2⟩
theorem mvK_ext : ∀ {a b : List MoveD}, srtM a → srtM b → (∀ k, mvK a k = mvK b k) → a = b
 | [], [], _, _, _ => rfl
 | [], y :: b, _, _, h => by have := h y.key; simp [mvK] at this
 | x :: a, [], _, _, h => by have := h x.key; simp [mvK] at this
 | x :: a, y :: b, ha, hb, h => by
  have ha' := List.pairwise_cons.1 ha
  have hb' := List.pairwise_cons.1 hb
  have hxy : x = y := by
   have h1 : mvK (y :: b) x.key = some x := by rw [← h]; simp [mvK]
   have h2 : mvK (x :: a) y.key = some y := by rw [h]; simp [mvK]
   have m1 := ((mvK_some hb).1 h1).1
   have m2 := ((mvK_some ha).1 h2).1
   rcases List.mem_cons.1 m1 with e | m1
   ·exact e
   rcases List.mem_cons.1 m2 with e | m2
   ·exact e.symm
   have q1 := hb'.1 x m1
   have q2 := ha'.1 y m2
   have := ltK_trans q1 q2
   rw [ltK_irr] at this; cases this
  subst hxy
  congr 1
  refine mvK_ext ha'.2 hb'.2 fun k => ?_
  by_cases hk : x.key = k
  ·have n1 : mvK a k = none := by
    unfold mvK; rw [List.find?_eq_none]
    intro z hz q
    have := ha'.1 z hz
    rw [of_decide_eq_true q, ← hk, ltK_irr] at this; cases this
   have n2 : mvK b k = none := by
    unfold mvK; rw [List.find?_eq_none]
    intro z hz q
    have := hb'.1 z hz
    rw [of_decide_eq_true q, ← hk, ltK_irr] at this; cases this
   rw [n1, n2]
  ·have := h k
   unfold mvK at this ⊢
   rw [List.find?_cons, List.find?_cons, decide_eq_false hk] at this
   exact this
theorem mem_putM {l : List MoveD} (hs : srtM l) {m x : MoveD} : x ∈ putM l m ↔ x = m ∨ (x ∈ l ∧ x.key ≠ m.key) := by
 unfold putM
 split
 ·rename_i hh
  obtain ⟨y, hy⟩ := hasM_lt hs hh
  have hp := (List.getElem?_eq_some_iff.1 hy).1
  have hyk : y.key = m.key := by
   have := posM_has (k := m.key) hs
   rw [hh, hy] at this
   simpa using this
  constructor
  ·intro hx
   obtain ⟨i, hi⟩ := List.mem_iff_getElem?.1 hx
   rw [List.getElem?_set] at hi
   split at hi
   ·try rw [if_pos hp] at hi
    injection hi with hi; exact .inl hi.symm
   ·rename_i hne
    exact .inr ⟨List.mem_of_getElem? hi, fun e => hne (posM_at hs hi e)⟩
  ·rintro (rfl | ⟨hx, hk⟩)
   ·exact List.mem_of_getElem? (i := posM l x.key) (by rw [List.getElem?_set_self hp])
   ·obtain ⟨i, hi⟩ := List.mem_iff_getElem?.1 hx
    have hne : posM l m.key ≠ i := fun e => hk (by rw [← e, hy] at hi; injection hi with hi; rw [← hi, hyk])
    exact List.mem_of_getElem? (i := i) (by rw [List.getElem?_set_ne hne, hi])
 ·rename_i hh
  have hall : ∀ z, z ∈ l ↔ z ∈ l.take (posM l m.key) ∨ z ∈ l.drop (posM l m.key) := fun z => by
   conv => lhs; rw [← List.take_append_drop (posM l m.key) l, List.mem_append]
  rw [List.mem_append, List.mem_append, List.mem_singleton]
  constructor
  ·rintro ((h | h) | h)
   ·exact .inr ⟨(hall x).2 (.inl h), fun e => hh (List.any_eq_true.2 ⟨x, (hall x).2 (.inl h), by simp [e]⟩)⟩
   ·exact .inl h
   ·exact .inr ⟨(hall x).2 (.inr h), fun e => hh (List.any_eq_true.2 ⟨x, (hall x).2 (.inr h), by simp [e]⟩)⟩
  ·rintro (h | ⟨h, _⟩)
   ·exact .inl (.inr h)
   ·rcases (hall x).1 h with h | h
    ·exact .inl (.inl h)
    ·exact .inr h
theorem mvK_put {l : List MoveD} (hs : srtM l) (m : MoveD) (k : KeyD) : mvK (putM l m) k = if m.key = k then some m else mvK l k := by
 apply Option.ext
 intro x
 show mvK (putM l m) k = some x ↔ _ = some x
 rw [mvK_some (srt_put hs m), mem_putM hs]
 by_cases h : m.key = k
 ·rw [if_pos h]
  constructor
  ·rintro ⟨rfl | ⟨_, h2⟩, h3⟩
   ·rfl
   ·exact absurd (h3.trans h.symm) h2
  ·intro e; injection e with e; subst e; exact ⟨.inl rfl, h⟩
 ·rw [if_neg h, mvK_some hs]
  constructor
  ·rintro ⟨rfl | ⟨h1, _⟩, h3⟩
   ·exact absurd h3 h
   ·exact ⟨h1, h3⟩
  ·rintro ⟨h1, h3⟩; exact ⟨.inr ⟨h1, fun e => h (e.symm.trans h3)⟩, h3⟩
theorem mvK_rest {g : KeyD → MoveD} (hg : ∀ k, (g k).key = k) {k : KeyD} : ∀ (ks : List KeyD) {ms : List MoveD}, srtM ms → mvK (ks.foldl (restP g) ms) k = if hasM ms k = true then mvK ms k else if k ∈ ks then some (g k) else none
 | [], ms, hs => by
  cases hh : hasM ms k
  ·simp [mvK_none.2 hh]
  ·simp
 | a :: ks, ms, hs => by
  rw [List.foldl_cons, mvK_rest hg ks (restP_srt hs a).1]
  unfold restP
  cases ha : hasM ms a
  ·simp only [Bool.false_eq_true, if_false]
   rw [has_put hs, hg, mvK_put hs, hg]
   by_cases hk : a = k
   ·subst hk
    simp [ha]
   ·have hk' : ¬ k = a := fun e => hk e.symm
    simp [hk, hk']
  ·simp only [if_true]
   by_cases hk : a = k
   ·subst hk
    simp [ha]
   ·have hk' : ¬ k = a := fun e => hk e.symm
    simp [hk']
theorem rest_eq {g g' : KeyD → MoveD} {ks ks' : List KeyD} {ms : List MoveD} (hs : srtM ms) (hg : ∀ k, (g k).key = k) (hg' : ∀ k, (g' k).key = k) (h : ∀ k, k ∈ ks ↔ k ∈ ks') (hgg : ∀ k ∈ ks, g k = g' k) : ks.foldl (restP g) ms = ks'.foldl (restP g') ms := by
 refine mvK_ext (rest_fold ks hs).1 (rest_fold ks' hs).1 fun k => ?_
 rw [mvK_rest hg ks hs, mvK_rest hg' ks' hs]
 by_cases hk : k ∈ ks
 ·rw [if_pos hk, if_pos ((h k).1 hk), hgg k hk]
 ·rw [if_neg hk, if_neg (fun q => hk ((h k).2 q))]
end Go.Proofs.YtphgchakmkankaaGreat

namespace Go.Proofs.YtphgchakmkankaaGreat
set_option linter.unusedSectionVars false
set_option linter.unusedVariables false
set_option linter.unusedSimpArgs false
open HP
theorem loopC_of {R : Type} {f : List AV → Heap → (AX × List AV × Heap → Option R) → Option R} {v : List AV} {σ : Heap} {K : AX × List AV × Heap → Option R} {r : R} (h : ∃ n, ∀ m, n ≤ m → A.iterC f m v σ K = some r) : A.loopC f v σ K = some r := by
 have hx : ∃ r, ∃ n, ∀ m, n ≤ m → A.iterC f m v σ K = some r := ⟨r, h⟩
 unfold A.loopC
 rw [dif_pos hx]
 obtain ⟨n, hn⟩ := h
 obtain ⟨n', hn'⟩ := Classical.choose_spec hx
 have a := hn (n + n') (by omega)
 have b := hn' (n + n') (by omega)
 rw [a] at b; exact b.symm
theorem bounds {P : Nat → Nat → Prop} : ∀ (n : Nat), (∀ j, j < n → ∃ N, ∀ m, N ≤ m → P j m) → ∃ N, ∀ j, j < n → ∀ m, N ≤ m → P j m
 | 0, _ => ⟨0, fun j h => by omega⟩
 | n + 1, h => by
  obtain ⟨N, hN⟩ := bounds n (fun j hj => h j (by omega))
  obtain ⟨M, hM⟩ := h n (by omega)
  refine ⟨N + M, fun j hj m hm => ?_⟩
  by_cases e : j = n
  ·subst e; exact hM m (by omega)
  ·exact hN j (by omega) m (by omega)
theorem map_erase {α β : Type} (f : α → β) (l : List α) (j : Nat) : (l.map f).eraseIdx j = (l.eraseIdx j).map f := by
 rw [List.eraseIdx_eq_take_drop_succ, List.eraseIdx_eq_take_drop_succ, List.map_append, List.map_take, List.map_drop]
theorem perm_at {α : Type} {l : List α} {j : Nat} (hj : j < l.length) : (l[j] :: l.eraseIdx j).Perm l := by
 have e : l = l.take j ++ l[j] :: l.drop (j + 1) := by rw [List.getElem_cons_drop, List.take_append_drop]
 rw [List.eraseIdx_eq_take_drop_succ]
 conv => rhs; rw [e]
 exact List.perm_middle.symm
theorem range_loop {α R : Type} {ex : Nat} {enc : α → AV × AV} {it : Nat} {f : List AV → Heap → (AX × List AV × Heap → Option R) → Option R} {K : AX × List AV × Heap → Option R} {r : R} {es : List α}
  (body : List AV → Heap → (AX × List AV × Heap → Option R) → Option R) (ev : List AV → List AV)
  (hf : ∀ v s k, f v s k = A.nextA (.op it 0) s fun x s' => (A.ext 0 x).bind fun c => A.cond c (body v s' k) (k (.exit ex, ev v, s')))
  (I : List α → List α → List AV → Heap → Prop) (hget : ∀ d l v s, I d l v s → ∃ c, s[it]? = some (.it c (l.map enc)))
  (hstep : ∀ d l v s j p, (d ++ l).Perm es → I d l v s → l[j]? = some p → ∃ v' s', (∀ k, body v (s.set it (.it [enc p] ((l.eraseIdx j).map enc))) k = k (.normal, v', s')) ∧ I (d ++ [p]) (l.eraseIdx j) v' s')
  (hend : ∀ d v s, d.Perm es → I d [] v s → K (.exit ex, ev v, s) = some r) {v0 : List AV} {s0 : Heap} (h0 : I [] es v0 s0) : A.loopC f v0 s0 K = some r := by
 have key : ∀ (n : Nat) (d l : List α) v s, l.length = n → (d ++ l).Perm es → I d l v s → ∃ N, ∀ m, N ≤ m → A.iterC f m v s K = some r := by
  intro n
  induction n with
  | zero =>
   intro d l v s hl hp hI
   have : l = [] := List.eq_nil_of_length_eq_zero hl
   subst this
   refine ⟨1, fun m hm => ?_⟩
   obtain ⟨m', rfl⟩ : ∃ m', m = m' + 1 := ⟨m - 1, by omega⟩
   obtain ⟨c, hc⟩ := hget _ _ _ _ hI
   rw [A.iterC, hf]
   simp only [A.nextA, hc, List.map_nil]
   exact hend d v s (by simpa using hp) hI
  | succ n ih =>
   intro d l v s hl hp hI
   obtain ⟨c, hc⟩ := hget _ _ _ _ hI
   have hb : ∀ j, j < l.length → ∃ N, ∀ m, N ≤ m → ∀ p, l[j]? = some p → body v (s.set it (.it [enc p] ((l.eraseIdx j).map enc))) (fun q => match q.1 with | .normal => A.iterC f m q.2.1 q.2.2 K | _ => K q) = some r := by
    intro j hj
    have hx : l[j]? = some l[j] := List.getElem?_eq_getElem hj
    obtain ⟨v', s', h1, h2⟩ := hstep d l v s j _ hp hI hx
    have hp2 : ((d ++ [l[j]]) ++ l.eraseIdx j).Perm es := by
     rw [List.append_assoc, List.singleton_append]
     exact ((perm_at hj).append_left d).trans hp
    obtain ⟨N, hN⟩ := ih _ _ _ _ (by rw [List.length_eraseIdx, if_pos hj]; omega) hp2 h2
    refine ⟨N, fun m hm p hpp => ?_⟩
    rw [hx] at hpp; injection hpp with hpp; subst hpp
    rw [h1]
    exact hN m hm
   obtain ⟨N, hN⟩ := bounds l.length hb
   refine ⟨N + 1, fun m hm => ?_⟩
   obtain ⟨m', rfl⟩ : ∃ m', m = m' + 1 := ⟨m - 1, by omega⟩
   rw [A.iterC, hf]
   cases l with
   | nil => simp at hl
   | cons e l =>
    simp only [A.nextA, hc, List.map_cons]
    refine all_of 0 (by simp) fun j hj => ?_
    have hj' : j < (e :: l).length := by simpa using hj
    have hx : (e :: l)[j]? = some (e :: l)[j] := List.getElem?_eq_getElem hj'
    have hx2 : (enc e :: l.map enc)[j]? = some (enc (e :: l)[j]) := by
     rw [← List.map_cons, List.getElem?_map, hx]; rfl
    have := hN j hj' m' (by omega) _ hx
    simp only [hx2]
    rw [← List.map_cons, map_erase]
    exact this
 exact loopC_of (key _ [] es v0 s0 rfl (List.Perm.refl _) h0)
def encS (p : KeyD × EntryD) : AV × AV := (.agg (cKey p.1), .agg (cEntry p.2))
section
variable {σ0 σ : Heap} {R : HP}
end
end Go.Proofs.YtphgchakmkankaaGreat

namespace Go.Proofs.YtphgchakmkankaaGreat
set_option linter.unusedSectionVars false
set_option linter.unusedVariables false
set_option linter.unusedSimpArgs false
open HP
theorem tupd_len {ν : Type} (k : KeyD) (v : ν) : ∀ s : List (KeyD × ν), (tupd k v s).length ≤ s.length + 1
 | [] => by simp [tupd]
 | (a, b) :: s => by
  rw [tupd]
  split
  ·simp
  ·have := tupd_len k v s; simp; omega
theorem tdel_len {ν : Type} (k : KeyD) : ∀ s : List (KeyD × ν), (tdel k s).length ≤ s.length
 | [] => by simp [tdel]
 | (a, b) :: s => by
  rw [tdel]
  split
  ·simp
  ·have := tdel_len k s; simp; omega
theorem stepM_len (n : Int) (s : List (KeyD × EntryD)) (m : MoveD) : (stepM n s m).length ≤ s.length + 1 := by
 unfold stepM
 split
 ·have := tdel_len m.key s; omega
 ·exact tupd_len _ _ _
theorem stepsM_len (n : Int) : ∀ (ms : List MoveD) (s : List (KeyD × EntryD)), (ms.foldl (stepM n) s).length ≤ s.length + ms.length
 | [], s => Nat.le_refl _
 | m :: ms, s => by
  rw [List.foldl_cons]
  have := stepsM_len n ms (stepM n s m)
  have := stepM_len n s m
  simp; omega
theorem doneF_pair (o : List CueD) : doneF o = (if formF o = 0 then o else [], formF o) := by
 unfold doneF; split
 ·rename_i h; rw [h]
 ·rfl
theorem nn_two {l : List CueD} {e : Int} : A.nn (.t [(.e 11 [.k, .k, .k, .k, .k, .k, .k, .s 2, .k, .k, .s 8]), .k]) (.tup [sl 11 cCue l, .int .i64 e]) = .tup [sl 11 cCue l, .int .i64 e] := nn_ret (nn_idem_cues l)
theorem mem_stepE {n : Int} {st : List EntryD} {m : MoveD} {e : EntryD} (h : e ∈ stepE n st m) : e ∈ st ∨ e = ⟨m.key, m.value, n⟩ := by
 have h1 : ∀ e, e ∈ (if hasE st m.key = true then st.eraseIdx (posE st m.key) else st) → e ∈ st := fun e he => by
  split at he
  ·exact List.mem_of_mem_eraseIdx he
  ·exact he
 unfold stepE at h
 simp only at h
 split at h
 ·exact .inl (h1 e h)
 ·simp only [List.mem_append, List.mem_singleton] at h
  rcases h with (h | h) | h
  ·exact .inl (h1 e (List.mem_of_mem_take h))
  ·exact .inr h
  ·exact .inl (h1 e (List.mem_of_mem_drop h))
theorem before_all {P : EntryD → Prop} {l : List CueD} (h : ∀ c ∈ l, ∀ m ∈ c.moves, P ⟨m.key, m.value, c.number⟩) : ∀ e ∈ beforeF l, P e := by
 have inner : ∀ (n : Int) (ms : List MoveD) (s : List EntryD), (∀ m ∈ ms, P ⟨m.key, m.value, n⟩) → (∀ p ∈ s, P p) → ∀ p ∈ ms.foldl (stepE n) s, P p := by
  intro n ms
  induction ms with
  | nil => intro s _ h; exact h
  | cons m ms ih =>
   intro s hm hs
   refine ih _ (fun x hx => hm x (by simp [hx])) (fun p hp => ?_)
   rcases mem_stepE hp with hp | rfl
   ·exact hs p hp
   ·exact hm m (by simp)
 have key : ∀ (l : List CueD) (s : List EntryD), (∀ c ∈ l, ∀ m ∈ c.moves, P ⟨m.key, m.value, c.number⟩) → (∀ p ∈ s, P p) → ∀ p ∈ l.foldl afterF s, P p := by
  intro l
  induction l with
  | nil => intro s _ h; exact h
  | cons c l ih =>
   intro s hl hs
   exact ih _ (fun x hx => hl x (by simp [hx])) (inner c.number c.moves s (hl c (by simp)) hs)
 exact key l [] h (by simp)
theorem key_ok {P : KeyD → Prop} {l : List CueD} (h : ∀ c ∈ l, ∀ m ∈ c.moves, P m.key) : ∀ e ∈ beforeF l, P e.key := before_all (P := fun e => P e.key) h
section
variable {σ0 σ : Heap} {R : HP}
end
end Go.Proofs.YtphgchakmkankaaGreat

