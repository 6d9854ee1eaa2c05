/- What the fast machine answers over the printed functions, the machine answers over the program; no condition. -/
import Derived.Test.YtjjgiigbhjfkaaaGreatDoorChk
import Derived.Test.YtjjgiigbhjfkaaaGreatDoorCgt
import Derived.Test.YtjjgiigbhjfkaaaGreatDoorAmB
set_option linter.unusedSimpArgs false
set_option linter.unusedVariables false
set_option maxHeartbeats 100000000
set_option maxRecDepth 1000000
namespace Go.Proofs.YtjjgiigbhjfkaaaGreatDoor
open Go Go.Proofs.YtjjgiigbhjfkaaaGreatDoor.Am Go.Proofs.YtjjgiigbhjfkaaaGreatDoor.Am.T
def extS : ExtV := fun f => if f = 303 then some extIndexByte else none
theorem extS_ok : ExtOK (KC Tryz.prog G0) Tryz.prog G0 extS := by
  intro F r m w f e args uargs v m' hf hG hs ha h
  unfold extS at hf
  split at hf
  · rename_i e
    subst e
    cases hf
    exact extIndexByte_sound Tryz.func303 (by decide +kernel) (by kernel_rfl) rfl rfl hs ha h
  · cases hf
theorem tabS_ok : ∀ f fi, tabS f = some fi → FnOK Tryz.prog G0 f fi := tabOf_ok
theorem firstF_eq (c : Nat) : ∀ (s : List Nat) (k : Nat), firstF c s k = firstAt c s k
  | [], _ => rfl
  | x :: s, k => by
    show bite (Nat.beq x c) (.ofNat k) (firstF c s (Nat.add k 1)) = _
    rw [beq_dec, bite_if, firstF_eq c s]
    simp only [firstAt, decide_eq_true_eq]
    rfl
theorem extIB_ok {LK : LKR} {m : Mem} {mf : FMem} {args : List V} {v : V} {mf' : FMem} (hm : MR LK m mf) (h : extIB args mf = some (v, mf')) : ∃ m', extIndexByte args m = some (v, m') ∧ MR LK m' mf' := by
  unfold extIB at h
  split at h
  · rename_i s c
    split at h
    · rename_i n hn
      cases h
      refine ⟨m, ?_, hm⟩
      simp only [extIndexByte, hn, firstF_eq]
    · cases h
  · cases h
/-- The fast form of parse.caught, with the function's number told. -/
noncomputable def spCaughtF (call : CallF) (a : List V) (m : FMem) : OpR := match a with
  | [.fn g cap] => bite (Nat.beq g 62) (match call (.fn g cap) [] m with
    | some (_, m') => some (.bool true, m')
    | none => none) none
  | _ => none
noncomputable def spF : SpF := fun f => bite (Nat.beq f 61) (some spCaughtF) none
theorem tabR : TabR ltT.find LIM tabS tabT.find extS ext spS spF where
  hTab f ff h := FTree.find_all qAll h
  hExt f e h := by
    unfold ext at h
    rw [beq_dec, bite_if] at h
    split at h
    · rename_i e; simp only [decide_eq_true_eq] at e; subst e; cases h
      exact ⟨extIndexByte, rfl, fun hm h => extIB_ok hm h⟩
    · cases h
  hNo f h := by
    unfold ext at h
    rw [beq_dec, bite_if] at h
    split at h
    · cases h
    · rename_i e; simp only [decide_eq_true_eq] at e
      unfold extS; rw [if_neg e]
  hSp f g h := by
    unfold spF at h
    rw [beq_dec, bite_if] at h
    split at h
    · rename_i e; simp only [decide_eq_true_eq] at e; subst e; cases h
      refine ⟨rfl, spCaughtS, rfl, ?_⟩
      intro LK call cf m mf args v mf' hc hm h
      unfold spCaughtF at h
      split at h
      · rename_i g cap
        rw [beq_dec, bite_if] at h
        split at h
        · rename_i e; simp only [decide_eq_true_eq] at e; subst e
          split at h
          · rename_i v1 m1 h1
            simp only [Option.some.injEq, Prod.mk.injEq] at h
            obtain ⟨rfl, rfl⟩ := h
            obtain ⟨m', h2, h3⟩ := hc hm h1
            refine ⟨m', ?_, h3⟩
            simp only [spCaughtS, if_true, h2]
          · cases h
        · cases h
      · cases h
    · cases h
noncomputable def machT (d : Nat) : Mach := machF tabT.find ltT.find ext spF LIM d
/-- A fast answer of the law at no memory is an answer of the slow machine. -/
theorem fast_slow {d f : Nat} {args : List V} {v : V} {mf' : FMem} (h : (machT d).enter f args emptyF = some (v, mf')) :
    ∃ m', (machine tabS extS spS LIM d).2 f args ⟨0, [], []⟩ = some (v, m') := by
  obtain ⟨m', h1, _⟩ := (mach_ok tabR d).2 none mr_empty h
  exact ⟨m', h1⟩
end Go.Proofs.YtjjgiigbhjfkaaaGreatDoor
