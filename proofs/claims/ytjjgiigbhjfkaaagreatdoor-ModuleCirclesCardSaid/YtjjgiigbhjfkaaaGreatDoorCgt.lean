/- parse.caught, where the called function returns, answers true; no further condition. -/
import Derived.Test.YtjjgiigbhjfkaaaGreatDoorChk
import Derived.Test.YtjjgiigbhjfkaaaGreatDoorAmB
import Derived.Test.YtjjgiigbhjfkaaaGreatDoorChecked
import Derived.KernelRfl
import Derived.WalkKit
import Derived.Defers
import Derived.Recover
set_option linter.unusedSimpArgs false
set_option linter.unusedVariables false
set_option maxHeartbeats 100000000
set_option maxRecDepth 1000000
namespace Go.Proofs.YtjjgiigbhjfkaaaGreatDoor
open Go Go.Proofs.YtjjgiigbhjfkaaaGreatDoor.Am Go.RowKit
def spCaughtS (call : CallV) (a : List V) (m : Mem) : Option (V × Mem) := match a with
  | [.fn g cap] => if g = 62 then (match call (.fn g cap) [] m with
    | some (_, m') => some (.bool true, m')
    | none => none) else none
  | _ => none
/-- The deferred function of parse.caught, where nothing is to be recovered. -/
theorem catch_idle (w : World) : CallsD Tryz.prog 117 #[] .returning w fun e u' w' => e = .returned (.tuple #[]) ∧ u' = .returning ∧ w' = w := by
  refine callsD_of_wpS Tryz.func117 rfl fun c₀ cs hu => ?_
  apply wpS_seq
  apply wpS_region
  have hnil : ∀ w : World, (binOp BinOp.neq 20 .nilIface .nilIface).run Tryz.prog w = .ok (.bool false) w := fun _ => by kernel_rfl
  simp [wpOpsS, go_sem, recoverD, hu, Tryz.ntmps117, Exit.thenS]
  apply wpS_seq
  apply wpS_region
  simp [wpOpsS, go_sem, Exit.thenS, hnil]
  refine wpS_cond (t := false) (by simp [Act.eval, Array.replicate]) ?_
  simp only [Bool.false_eq_true, if_false]
  refine wpS_of_wp (wp_skip ?_)
  cases c₀
  simp_all [bodyPostS, results, Tryz.results117, Exit.thenS]
theorem caught_aux {F : Frz} {r : Am.Loc} {m m' : Mem} {w : World} {g f : Nat} {v : V} {ucap args : Array Value}
    (h1 : (callFunc g ucap).run Tryz.prog w = .ok (.enter f args) w) (h2 : ∀ n, CallsIn (fe none) n Tryz.prog f args w (retPost (KC Tryz.prog G0) F r m w v m')) :
    Calls Tryz.prog 61 #[.func (.func g) #[] ucap] w (retPost (KC Tryz.prog G0) F r m w (.bool true) m') := by
  have he : (do let d ← Deferred.ofValue (.func (.func g) #[] ucap) #[]; invoke d.target d.args : Sem Next).run Tryz.prog w = .ok (.enter f args) w := by
    simp only [Deferred.ofValue, Sem.run_bind, Sem.run_pure, Result.andThen_ok, invoke]
    have : (#[] ++ #[] ++ ucap : Array Value) = ucap := by simp
    rw [this, h1]
  have hmf : ∀ (fn : Fn) (first cap : Array Value) (w : World), (Instr.makeFunc fn first cap).run Tryz.prog w = .ok (.func fn first cap) w := fun _ _ _ _ => rfl
  go_enter_defers Tryz.func61, Tryz.ntmps61
  go_wp2
  refine ((callsIn_wide (n := 0)).1 (h2 0)).mono ?_
  rintro e w' hpost
  cases e with
  | panicked c => exact hpost.elim
  | outgrown => exact hpost.elim
  | returned u' =>
    obtain ⟨F', r', g2, g3, g4⟩ := hpost
    go_wp2
    refine leaves_cons (f := 117) (args := #[]) (by simp) (by simp [go_sem]) ?_
    refine (catch_idle _).mono ?_
    rintro e u'' w'' ⟨rfl, rfl, rfl⟩
    simp [Leaves, settle, results, Tryz.results61, go_sem]
    exact ⟨F', r', g2, g3, .bool⟩
theorem enters61 {args : Array Value} {w : World} : (callFunc 61 args).run Tryz.prog w = .ok (.enter 61 args) w := by
  have hn : ¬ Tryz.f61.name = "runtime.NumGoroutine" := by decide +kernel
  have hb : ¬ Tryz.f61.body = none := by
    have : Tryz.f61.body.isNone = false := by kernel_rfl
    intro e; rw [e] at this; cases this
  simp [callFunc, go_sem, hn, hb]
theorem enters62 {args : Array Value} {w : World} : (callFunc 62 args).run Tryz.prog w = .ok (.enter 62 args) w := by
  have hn : ¬ Tryz.f62.name = "runtime.NumGoroutine" := by decide +kernel
  have hb : ¬ Tryz.f62.body = none := by
    have : Tryz.f62.body.isNone = false := by kernel_rfl
    intro e; rw [e] at this; cases this
  simp [callFunc, go_sem, hn, hb]
theorem caught_calls {call : CallV} (hcall : CallOK (KC Tryz.prog G0) Tryz.prog G0 call) {F : Frz} {r : Am.Loc} {m m' : Mem} {w : World} {cap : List V} {v : V} {u : Value} (hG : GlobOK F G0) (hs : Sim (KC Tryz.prog G0) F r m w) (hd : VR F r (.fn 62 cap) u)
    (h : call (.fn 62 cap) [] m = some (v, m')) : Calls Tryz.prog 61 #[u] w (retPost (KC Tryz.prog G0) F r m w (.bool true) m') := by
  have hres := hcall hG hs hd VRs.nil h
  cases hd with | fn hcl hcv =>
  rename_i ucap
  have he : (do let d ← Deferred.ofValue (.func (.func 62) #[] ucap) #[]; invoke d.target d.args : Sem Next).run Tryz.prog w = (callFunc 62 ucap).run Tryz.prog w := by
    simp only [Deferred.ofValue, Sem.run_bind, Sem.run_pure, Result.andThen_ok, invoke]
    have : (#[] ++ #[] ++ ucap : Array Value) = ucap := by simp
    rw [this]
  unfold CallRes at hres
  rw [he] at hres
  have hcf : (callFunc 62 ucap).run Tryz.prog w = .ok (.enter 62 ucap) w := enters62
  rcases hres with ⟨u', w', F', r', h1, h2, h3, h4⟩ | ⟨f, args, h1, h2⟩ | ⟨l, f, tmps, asg, body, h1, h2⟩
  · rw [hcf] at h1; cases h1
  · exact caught_aux h1 h2
  · rw [hcf] at h1; cases h1
def spS : SpV := fun f => if f = 61 then some spCaughtS else none
theorem spS_ok : SpOK Tryz.prog G0 spS := by
  intro call hcall F r m w f g args uargs v m' hf hG hs ha h
  unfold spS at hf
  split at hf
  · rename_i e
    subst e
    cases hf
    refine ⟨enters61, fun n => ?_⟩
    unfold spCaughtS at h
    split at h
    · rename_i g cap
      split at h
      · rename_i e
        subst e
        split at h
        · rename_i v' m1 hc
          simp only [Option.some.injEq, Prod.mk.injEq] at h
          obtain ⟨rfl, rfl⟩ := h
          obtain ⟨hl, hv⟩ := ha
          have hsz : uargs.size = 1 := by simpa using hl.symm
          obtain ⟨u, rfl⟩ : ∃ u, uargs = #[u] := Array.size_eq_one_iff.1 hsz
          exact callsIn_wide.2 (caught_calls hcall hG hs (hv 0 (by simp) (by simp)) hc)
        · cases h
      · cases h
    · cases h
  · cases hf
end Go.Proofs.YtjjgiigbhjfkaaaGreatDoor
