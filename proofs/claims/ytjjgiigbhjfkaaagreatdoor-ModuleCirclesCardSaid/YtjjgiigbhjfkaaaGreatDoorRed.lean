/- ModuleCircles answers alike at inputs that agree modulo 6 and modulo the count of lets; no further condition. -/
import Derived.Test.YtjjgiigbhjfkaaaGreatDoorAmB
import Derived.Test.YtjjgiigbhjfkaaaGreatDoorTab
set_option linter.unusedSimpArgs false
set_option linter.unusedVariables false
set_option maxHeartbeats 100000000
set_option maxRecDepth 1000000
namespace Go.Proofs.YtjjgiigbhjfkaaaGreatDoor
open Go Go.Proofs.YtjjgiigbhjfkaaaGreatDoor.Am
abbrev TT : List Nat := [0, 1, 27, 28, 53, 54]
abbrev KK : List Nat := [0, 1, 7]
abbrev leaf3 : IR := .region [⟨(some 27), .mov (.t 0), none⟩, ⟨(some 28), .conv .i64 (.t 27), none⟩, ⟨(some 29), .bin .rem (.t 28) (.c (.int .i64 (6))), none⟩, ⟨(some 30), .bin .add (.c (.int .i64 (1))) (.t 29), none⟩, ⟨(some 7), .mov (.t 30), none⟩]
abbrev leaf15 : IR := .region [⟨(some 49), .mov (.t 10), none⟩, ⟨(some 50), .bin .eql (.t 49) (.c (.int .i64 (1))), none⟩, ⟨(some 51), .mov (.t 50), none⟩, ⟨(some 52), .mov (.t 12), (some (51, true))⟩, ⟨(some 53), .mov (.t 1), (some (51, true))⟩, ⟨(some 54), .conv .i64 (.t 53), (some (51, true))⟩, ⟨(some 55), .mov (.t 7), (some (51, true))⟩, ⟨(some 56), .bin .rem (.t 54) (.t 55), (some (51, true))⟩, ⟨(some 57), .bin .eql (.t 52) (.t 56), (some (51, true))⟩, ⟨(some 58), .pick (.t 51) (.t 57) (.c (.bool false)), none⟩]
theorem getD_set_eq {a : List V} {i : Nat} {v d : V} (h : i < a.length) : (a.set i v).getD i d = v := by
  simp [List.getD_eq_getElem?_getD, List.getElem?_set, h]
theorem getD_set_ne {a : List V} {i j : Nat} {v d : V} (h : i ≠ j) : (a.set i v).getD j d = a.getD j d := by
  simp [List.getD_eq_getElem?_getD, List.getElem?_set, h]
structure RR (n t n' t' : Nat) (a a' : List V) : Prop where
  len : a.length = 191
  len' : a'.length = 191
  off : ∀ i, i ∉ TT → a.getD i undefV = a'.getD i undefV
  gn : a.getD 0 undefV = .int .u8 n
  gn' : a'.getD 0 undefV = .int .u8 n'
  gt : a.getD 1 undefV = .int .u8 t
  gt' : a'.getD 1 undefV = .int .u8 t'
  k : a.getD 7 undefV = undefV ∨ a.getD 7 undefV = .int .i64 (1 + (n % 6 : Nat))
section
variable {n t n' t' : Nat}
theorem rr_ok : RelOK (RR n t n' t') TT KK where
  len h := h.len.trans h.len'.symm
  off h := h.off
  put {a a'} h d v hd := by
    simp only [List.mem_cons, List.not_mem_nil, or_false, not_or] at hd
    obtain ⟨h0, h1, h7⟩ := hd
    refine ⟨by simp [h.len], by simp [h.len'], fun i hi => ?_, ?_, ?_, ?_, ?_, ?_⟩
    · by_cases e : d = i
      · subst e
        by_cases hl : d < 191
        · rw [getD_set_eq (by rw [h.len]; exact hl), getD_set_eq (by rw [h.len']; exact hl)]
        · rw [List.set_eq_of_length_le (by rw [h.len]; omega), List.set_eq_of_length_le (by rw [h.len']; omega)]
          exact h.off _ hi
      · rw [getD_set_ne e, getD_set_ne e]; exact h.off i hi
    · rw [getD_set_ne h0]; exact h.gn
    · rw [getD_set_ne h0]; exact h.gn'
    · rw [getD_set_ne h1]; exact h.gt
    · rw [getD_set_ne h1]; exact h.gt'
    · rw [getD_set_ne h7]; exact h.k
/-- A slot that may differ is set. -/
theorem RR.setT {a a' : List V} (h : RR n t n' t' a a') {d : Nat} (v v' : V) (hd : d ∈ [27, 28, 53, 54]) : RR n t n' t' (a.set d v) (a'.set d v') := by
  have h0 : d ≠ 0 := by rintro rfl; simp at hd
  have h1 : d ≠ 1 := by rintro rfl; simp at hd
  have h7 : d ≠ 7 := by rintro rfl; simp at hd
  refine ⟨by simp [h.len], by simp [h.len'], fun i hi => ?_, ?_, ?_, ?_, ?_, ?_⟩
  · have e : d ≠ i := by
      rintro rfl
      exact hi (by simp only [List.mem_cons, List.not_mem_nil, or_false] at hd ⊢; omega)
    rw [getD_set_ne e, getD_set_ne e]; exact h.off i hi
  · rw [getD_set_ne h0]; exact h.gn
  · rw [getD_set_ne h0]; exact h.gn'
  · rw [getD_set_ne h1]; exact h.gt
  · rw [getD_set_ne h1]; exact h.gt'
  · rw [getD_set_ne h7]; exact h.k
def IRel (R : List V → List V → Prop) : Option (List V × Mem) → Option (List V × Mem) → Prop
  | none, none => True
  | some (a1, m1), some (a1', m1') => m1 = m1' ∧ R a1 a1'
  | _, _ => False
theorem irel_leaf {R : List V → List V → Prop} {call : CallV} {enter : EnterV} {L : Nat} {is : List Ins} {a a' : List V} {m : Mem} (h : IRel R (inssRun call is a m) (inssRun call is a' m)) :
    ResRel R (codeRun call enter L none (.region is) a m) (codeRun call enter L none (.region is) a' m) := by
  simp only [codeRun]
  cases e1 : inssRun call is a m with
  | none => cases e2 : inssRun call is a' m with
    | none => trivial
    | some _ => rw [e1, e2] at h; exact h.elim
  | some p => cases e2 : inssRun call is a' m with
    | none => rw [e1, e2] at h; exact h.elim
    | some q => rw [e1, e2] at h; exact ⟨rfl, h.1, h.2⟩
theorem irel_cons {R S : List V → List V → Prop} {call : CallV} {i : Ins} {is : List Ins} {a a' : List V} {m : Mem} (h1 : IRel S (insRun call i a m) (insRun call i a' m))
    (h2 : ∀ b b' m', S b b' → IRel R (inssRun call is b m') (inssRun call is b' m')) : IRel R (inssRun call (i :: is) a m) (inssRun call (i :: is) a' m) := by
  simp only [inssRun]
  cases e1 : insRun call i a m with
  | none => cases e2 : insRun call i a' m with
    | none => trivial
    | some _ => rw [e1, e2] at h1; exact h1.elim
  | some p => cases e2 : insRun call i a' m with
    | none => rw [e1, e2] at h1; exact h1.elim
    | some q => 
      rw [e1, e2] at h1
      obtain ⟨e, h⟩ := h1
      obtain ⟨p1, p2⟩ := p
      obtain ⟨q1, q2⟩ := q
      simp only at e
      subst e
      exact h2 _ _ _ h
theorem irel_off {call : CallV} {i : Ins} (hi : insOff TT KK i = true) {a a' : List V} (h : RR n t n' t' a a') (m : Mem) : IRel (RR n t n' t') (insRun call i a m) (insRun call i a' m) := by
  have := rr_ok.ins (call := call) hi h m
  unfold IRel
  split at this <;> rename_i e1 e2 <;> simp_all
theorem wanted_iff {a : List V} {s : Nat} {b : Bool} (hs : s < a.length) : wantedV (some (s, b)) a = true ↔ a.getD s undefV = .bool b := by
  unfold wantedV
  simp only [List.getD_eq_getElem?_getD, List.getElem?_eq_getElem hs, Option.getD_some]
  split
  · rename_i b' e; simp only [Option.some.injEq] at e; rw [e]; simp
  · rename_i e
    constructor
    · intro h; cases h
    · intro h; exact absurd (congrArg some h) (by simpa using e b)
theorem leaf3_ok (hn : n % 6 = n' % 6) (h1 : n < 256) (h2 : n' < 256) {call : CallV} {enter : EnterV} {L : Nat} {a a' : List V} (h : RR n t n' t' a a') (m : Mem) :
    ResRel (RR n t n' t') (codeRun call enter L none leaf3 a m) (codeRun call enter L none leaf3 a' m) := by
  apply irel_leaf
  refine irel_cons (S := fun b b' => RR n t n' t' b b' ∧ b.getD 27 undefV = .int .u8 n ∧ b'.getD 27 undefV = .int .u8 n') ?_ ?_
  · simp only [insRun, wantedV, opRun, IOp.run, X.ev, if_true, putV]
    exact ⟨rfl, h.setT _ _ (by simp), by rw [getD_set_eq (by rw [h.len]; decide)]; exact h.gn, by rw [getD_set_eq (by rw [h.len']; decide)]; exact h.gn'⟩
  rintro b b' m1 ⟨h, e1, e2⟩
  refine irel_cons (S := fun b b' => RR n t n' t' b b' ∧ b.getD 28 undefV = .int .i64 n ∧ b'.getD 28 undefV = .int .i64 n') ?_ ?_
  · simp only [insRun, wantedV, opRun, IOp.run, X.ev, if_true, putV, e1, e2, asN, Option.map_some]
    have w1 : IntKind.i64.wrap (n : Int) = n := by simp [IntKind.wrap, IntKind.bits, IntKind.signed]; omega
    have w2 : IntKind.i64.wrap (n' : Int) = n' := by simp [IntKind.wrap, IntKind.bits, IntKind.signed]; omega
    rw [w1, w2]
    exact ⟨rfl, h.setT _ _ (by simp), getD_set_eq (by rw [h.len]; decide), getD_set_eq (by rw [h.len']; decide)⟩
  rintro b b' m1 ⟨h, e1, e2⟩
  refine irel_cons (S := fun b b' => RR n t n' t' b b' ∧ b.getD 29 undefV = .int .i64 (n % 6 : Nat) ∧ b'.getD 29 undefV = .int .i64 (n % 6 : Nat)) ?_ ?_
  · simp only [insRun, wantedV, opRun, IOp.run, X.ev, if_true, putV, e1, e2, binV, isShift, intOp, Option.map_some, Bool.false_eq_true, if_false, show (6 : Int) ≠ 0 by decide]
    have w1 : (n : Int).tmod 6 = (n % 6 : Nat) := by rw [Int.tmod_eq_emod_of_nonneg (by omega)]; omega
    have w2 : (n' : Int).tmod 6 = (n % 6 : Nat) := by rw [Int.tmod_eq_emod_of_nonneg (by omega)]; omega
    rw [w1, w2]
    exact ⟨rfl, rr_ok.put h 29 _ (by decide), getD_set_eq (by rw [h.len]; decide), getD_set_eq (by rw [h.len']; decide)⟩
  rintro b b' m1 ⟨h, e1, e2⟩
  refine irel_cons (S := fun b b' => RR n t n' t' b b' ∧ b.getD 30 undefV = .int .i64 (1 + (n % 6 : Nat)) ∧ b'.getD 30 undefV = .int .i64 (1 + (n % 6 : Nat))) ?_ ?_
  · simp only [insRun, wantedV, opRun, IOp.run, X.ev, if_true, putV, e1, e2, binV, isShift, intOp, Option.map_some, Bool.false_eq_true, if_false]
    have w1 : IntKind.i64.wrap (1 + (n % 6 : Nat) : Int) = 1 + (n % 6 : Nat) := by simp [IntKind.wrap, IntKind.bits, IntKind.signed]; omega
    rw [w1]
    exact ⟨rfl, rr_ok.put h 30 _ (by decide), getD_set_eq (by rw [h.len]; decide), getD_set_eq (by rw [h.len']; decide)⟩
  rintro b b' m1 ⟨h, e1, e2⟩
  refine irel_cons (S := RR n t n' t') ?_ ?_
  · simp only [insRun, wantedV, opRun, IOp.run, X.ev, if_true, putV, e1, e2]
    refine ⟨rfl, by simp [h.len], by simp [h.len'], fun i hi => ?_, ?_, ?_, ?_, ?_, ?_⟩
    · by_cases e : 7 = i
      · subst e
        rw [getD_set_eq (by rw [h.len]; decide), getD_set_eq (by rw [h.len']; decide)]
      · rw [getD_set_ne e, getD_set_ne e]; exact h.off i hi
    · rw [getD_set_ne (by decide)]; exact h.gn
    · rw [getD_set_ne (by decide)]; exact h.gn'
    · rw [getD_set_ne (by decide)]; exact h.gt
    · rw [getD_set_ne (by decide)]; exact h.gt'
    · rw [getD_set_eq (by rw [h.len]; decide)]; exact .inr rfl
  intro b b' m1 h
  exact ⟨rfl, h⟩
theorem leaf15_ok (ht : t % (1 + n % 6) = t' % (1 + n % 6)) (h1 : t < 256) (h2 : t' < 256) {call : CallV} {enter : EnterV} {L : Nat} {a a' : List V} (h : RR n t n' t' a a') (m : Mem) :
    ResRel (RR n t n' t') (codeRun call enter L none leaf15 a m) (codeRun call enter L none leaf15 a' m) := by
  apply irel_leaf
  refine irel_cons (irel_off (by decide) h m) fun b b' m1 h => ?_
  refine irel_cons (irel_off (by decide) h m1) fun b b' m1 h => ?_
  refine irel_cons (irel_off (by decide) h m1) fun b b' m1 h => ?_
  refine irel_cons (irel_off (by decide) h m1) fun b b' m1 h => ?_
  have hg : ∀ {b b' : List V}, RR n t n' t' b b' → wantedV (some (51, true)) b = wantedV (some (51, true)) b' := by
    intro b b' h
    rw [Bool.eq_iff_iff, wanted_iff (by rw [h.len]; decide), wanted_iff (by rw [h.len']; decide), h.off 51 (by decide)]
  have hgs : ∀ {b : List V} {d : Nat} {v : V}, d ≠ 51 → wantedV (some (51, true)) (b.set d v) = wantedV (some (51, true)) b := by
    intro b d v hd
    unfold wantedV
    simp only [List.getElem?_set, if_neg hd]
  refine irel_cons (S := fun b b' => RR n t n' t' b b' ∧ (wantedV (some (51, true)) b = true → b.getD 53 undefV = .int .u8 t ∧ b'.getD 53 undefV = .int .u8 t')) ?_ ?_
  · unfold insRun
    simp only [hg h]
    by_cases hw : wantedV (some (51, true)) b' = true
    · rw [if_pos hw, if_pos hw]
      simp only [opRun, IOp.run, X.ev, putV]
      exact ⟨rfl, h.setT _ _ (by simp), fun _ => ⟨by rw [getD_set_eq (by rw [h.len]; decide)]; exact h.gt, by rw [getD_set_eq (by rw [h.len']; decide)]; exact h.gt'⟩⟩
    · rw [if_neg hw, if_neg hw]
      refine ⟨rfl, h.setT _ _ (by simp), fun hh => ?_⟩
      rw [show putV b (some 53) undefV = b.set 53 undefV from rfl, hgs (by decide), hg h] at hh
      exact absurd hh hw
  rintro b b' m1 ⟨h, e⟩
  refine irel_cons (S := fun b b' => RR n t n' t' b b' ∧ (wantedV (some (51, true)) b = true → b.getD 54 undefV = .int .i64 t ∧ b'.getD 54 undefV = .int .i64 t')) ?_ ?_
  · unfold insRun
    simp only [hg h]
    by_cases hw : wantedV (some (51, true)) b' = true
    · rw [if_pos hw, if_pos hw]
      obtain ⟨e1, e2⟩ := e ((hg h).trans hw)
      simp only [opRun, IOp.run, X.ev, putV, e1, e2, asN, Option.map_some]
      have w1 : IntKind.i64.wrap (t : Int) = t := by simp [IntKind.wrap, IntKind.bits, IntKind.signed]; omega
      have w2 : IntKind.i64.wrap (t' : Int) = t' := by simp [IntKind.wrap, IntKind.bits, IntKind.signed]; omega
      rw [w1, w2]
      exact ⟨rfl, h.setT _ _ (by simp), fun _ => ⟨getD_set_eq (by rw [h.len]; decide), getD_set_eq (by rw [h.len']; decide)⟩⟩
    · rw [if_neg hw, if_neg hw]
      refine ⟨rfl, h.setT _ _ (by simp), fun hh => ?_⟩
      rw [show putV b (some 54) undefV = b.set 54 undefV from rfl, hgs (by decide), hg h] at hh
      exact absurd hh hw
  rintro b b' m1 ⟨h, e⟩
  refine irel_cons (S := fun b b' => RR n t n' t' b b' ∧ (wantedV (some (51, true)) b = true → (b.getD 54 undefV = .int .i64 t ∧ b'.getD 54 undefV = .int .i64 t') ∧ (b.getD 55 undefV = undefV ∨ b.getD 55 undefV = .int .i64 (1 + (n % 6 : Nat))))) ?_ ?_
  · unfold insRun
    simp only [hg h]
    by_cases hw : wantedV (some (51, true)) b' = true
    · rw [if_pos hw, if_pos hw]
      obtain ⟨e1, e2⟩ := e ((hg h).trans hw)
      simp only [opRun, IOp.run, X.ev, putV]
      rw [← h.off 7 (by decide)]
      exact ⟨rfl, rr_ok.put h 55 _ (by decide), fun _ => ⟨⟨by rw [getD_set_ne (by decide)]; exact e1, by rw [getD_set_ne (by decide)]; exact e2⟩, by rw [getD_set_eq (by rw [h.len]; decide)]; exact h.k⟩⟩
    · rw [if_neg hw, if_neg hw]
      refine ⟨rfl, rr_ok.put h 55 _ (by decide), fun hh => ?_⟩
      rw [show putV b (some 55) undefV = b.set 55 undefV from rfl, hgs (by decide), hg h] at hh
      exact absurd hh hw
  rintro b b' m1 ⟨h, e⟩
  refine irel_cons (S := RR n t n' t') ?_ ?_
  · unfold insRun
    simp only [hg h]
    by_cases hw : wantedV (some (51, true)) b' = true
    · rw [if_pos hw, if_pos hw]
      obtain ⟨⟨e1, e2⟩, e3⟩ := e ((hg h).trans hw)
      simp only [opRun, IOp.run, X.ev, ← h.off 55 (show 55 ∉ TT by decide), e1, e2]
      rcases e3 with e3 | e3
      · rw [e3]
        simp [undefV, binV, IRel]
      · rw [e3]
        have hz : ¬ (1 + (n % 6 : Nat) : Int) = 0 := by omega
        simp only [binV, isShift, intOp, Option.map_some, Bool.false_eq_true, if_false, if_true, if_neg hz]
        have w1 : (t : Int).tmod (1 + (n % 6 : Nat)) = (t % (1 + n % 6) : Nat) := by rw [Int.tmod_eq_emod_of_nonneg (by omega)]; simp
        have w2 : (t' : Int).tmod (1 + (n % 6 : Nat)) = (t' % (1 + n % 6) : Nat) := by rw [Int.tmod_eq_emod_of_nonneg (by omega)]; simp
        rw [w1, w2, ht]
        exact ⟨rfl, rr_ok.put h 56 _ (by decide)⟩
    · rw [if_neg hw, if_neg hw]
      exact ⟨rfl, rr_ok.put h 56 _ (by decide)⟩
  intro b b' m1 h
  refine irel_cons (irel_off (by decide) h m1) fun b b' m1 h => ?_
  refine irel_cons (irel_off (by decide) h m1) fun b b' m1 h => ?_
  exact ⟨rfl, h⟩
end
end Go.Proofs.YtjjgiigbhjfkaaaGreatDoor

set_option maxRecDepth 1000000
namespace Go.Proofs.YtjjgiigbhjfkaaaGreatDoor
open Go Go.Proofs.YtjjgiigbhjfkaaaGreatDoor.Am Go.Proofs.YtjjgiigbhjfkaaaGreatDoor.Am.T
theorem facts3 : (tabS 3).map (fun fi => (fi.body.leaves TT KK, fi.res.all (fun x => !TT.contains x.t), fi.ntmps)) = some ([leaf3, leaf15], true, 191) := by kernel_rfl
theorem rr_start {n t n' t' : Nat} (b : Bool) : RR n t n' t' ([.int .u8 n, .int .u8 t, .bool b] ++ List.replicate 188 undefV) ([.int .u8 n', .int .u8 t', .bool b] ++ List.replicate 188 undefV) := by
  refine ⟨by simp, by simp, fun i hi => ?_, rfl, rfl, rfl, rfl, .inl rfl⟩
  rcases i with _ | _ | i
  · simp at hi
  · simp at hi
  · rfl
theorem law_reduce {n t n' t' : Nat} (h1 : n < 256) (h2 : n' < 256) (h3 : t < 256) (h4 : t' < 256) (hn : n % 6 = n' % 6) (ht : t % (1 + n % 6) = t' % (1 + n % 6)) (b : Bool) (d : Nat) (m : Mem) :
    (machine tabS extS spS LIM (d + 1)).2 3 [.int .u8 n, .int .u8 t, .bool b] m = (machine tabS extS spS LIM (d + 1)).2 3 [.int .u8 n', .int .u8 t', .bool b] m := by
  have hf := facts3
  cases h : tabS 3 with
  | none => rw [h] at hf; cases hf
  | some fi =>
    rw [h] at hf
    simp only [Option.map_some, Option.some.injEq, Prod.mk.injEq] at hf
    obtain ⟨f1, f2, f3⟩ := hf
    simp only [machine, enterOf, h]
    refine (rr_ok (n := n) (t := t) (n' := n') (t' := t')).fn ?_ f2 ?_ m
    · rw [f1]
      intro x hx a a' hr m
      simp only [List.mem_cons, List.not_mem_nil, or_false] at hx
      rcases hx with rfl | rfl
      · exact leaf3_ok hn h1 h2 hr m
      · exact leaf15_ok ht h3 h4 hr m
    · rw [f3]
      exact rr_start b
theorem isTrue_some {r : OpR} (h : T.isTrue r = true) : ∃ m, r = some (.bool true, m) := by
  unfold T.isTrue at h
  split at h
  · rename_i b m; subst h; exact ⟨m, rfl⟩
  · cases h
end Go.Proofs.YtjjgiigbhjfkaaaGreatDoor
