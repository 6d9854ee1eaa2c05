/- ModuleCircles answers true at every input, on the machine; no condition. -/
import Derived.Test.YtjjgiigbhjfkaaaGreatDoorRed
import Derived.Test.YtjjgiigbhjfkaaaGreatDoorRA
import Derived.Test.YtjjgiigbhjfkaaaGreatDoorRBT
import Derived.Test.YtjjgiigbhjfkaaaGreatDoorRBF
import Derived.Test.YtjjgiigbhjfkaaaGreatDoorR4T0
import Derived.Test.YtjjgiigbhjfkaaaGreatDoorR4F0
import Derived.Test.YtjjgiigbhjfkaaaGreatDoorR4F1
import Derived.Test.YtjjgiigbhjfkaaaGreatDoorR4T1
import Derived.Test.YtjjgiigbhjfkaaaGreatDoorR4F2
import Derived.Test.YtjjgiigbhjfkaaaGreatDoorR4F3
import Derived.Test.YtjjgiigbhjfkaaaGreatDoorR5T0
import Derived.Test.YtjjgiigbhjfkaaaGreatDoorR5F0
import Derived.Test.YtjjgiigbhjfkaaaGreatDoorR5F1
import Derived.Test.YtjjgiigbhjfkaaaGreatDoorR5T1
import Derived.Test.YtjjgiigbhjfkaaaGreatDoorR5F2
import Derived.Test.YtjjgiigbhjfkaaaGreatDoorR5F3
import Derived.Test.YtjjgiigbhjfkaaaGreatDoorR5T2
import Derived.Test.YtjjgiigbhjfkaaaGreatDoorR5F4
import Derived.Test.YtjjgiigbhjfkaaaGreatDoorR6T0
import Derived.Test.YtjjgiigbhjfkaaaGreatDoorR6F0
import Derived.Test.YtjjgiigbhjfkaaaGreatDoorR6F1
import Derived.Test.YtjjgiigbhjfkaaaGreatDoorR6T1
import Derived.Test.YtjjgiigbhjfkaaaGreatDoorR6F2
import Derived.Test.YtjjgiigbhjfkaaaGreatDoorR6F3
import Derived.Test.YtjjgiigbhjfkaaaGreatDoorR6T2
import Derived.Test.YtjjgiigbhjfkaaaGreatDoorR6F4
import Derived.Test.YtjjgiigbhjfkaaaGreatDoorR6F5
set_option linter.unusedSimpArgs false
set_option linter.unusedVariables false
set_option maxHeartbeats 100000000
set_option maxRecDepth 1000000
namespace Go.Proofs.YtjjgiigbhjfkaaaGreatDoor
open Go Go.Proofs.YtjjgiigbhjfkaaaGreatDoor.Am Go.Proofs.YtjjgiigbhjfkaaaGreatDoor.Am.T
/-- A told case of the law, on the slow machine. -/
theorem told {n t : Nat} {b : Bool} (h : T.isTrue ((machT 40).enter 3 [.int .u8 n, .int .u8 t, .bool b] emptyF) = true) :
    ∃ m', (machine tabS extS spS LIM 40).2 3 [.int .u8 n, .int .u8 t, .bool b] ⟨0, [], []⟩ = some (.bool true, m') := by
  obtain ⟨m, hm⟩ := isTrue_some h
  exact fast_slow hm
def LawAt (n t : Nat) (b : Bool) : Prop := ∃ m', (machine tabS extS spS LIM 40).2 3 [.int .u8 n, .int .u8 t, .bool b] ⟨0, [], []⟩ = some (.bool true, m')
theorem c10t : LawAt 0 0 true := told (n := 0) (t := 0) r10t
theorem c10f : LawAt 0 0 false := told (n := 0) (t := 0) r10f
theorem c20t : LawAt 1 0 true := told (n := 1) (t := 0) r20t
theorem c20f : LawAt 1 0 false := told (n := 1) (t := 0) r20f
theorem c21t : LawAt 1 1 true := told (n := 1) (t := 1) r21t
theorem c21f : LawAt 1 1 false := told (n := 1) (t := 1) r21f
theorem c30t : LawAt 2 0 true := told (n := 2) (t := 0) r30t
theorem c30f : LawAt 2 0 false := told (n := 2) (t := 0) r30f
theorem c31t : LawAt 2 1 true := told (n := 2) (t := 1) r31t
theorem c31f : LawAt 2 1 false := told (n := 2) (t := 1) r31f
theorem c32t : LawAt 2 2 true := told (n := 2) (t := 2) r32t
theorem c32f : LawAt 2 2 false := told (n := 2) (t := 2) r32f
theorem c40t : LawAt 3 0 true := told (n := 3) (t := 0) r40t
theorem c40f : LawAt 3 0 false := told (n := 3) (t := 0) r40f
theorem c41t : LawAt 3 1 true := told (n := 3) (t := 1) r41t
theorem c41f : LawAt 3 1 false := told (n := 3) (t := 1) r41f
theorem c42t : LawAt 3 2 true := told (n := 3) (t := 2) r42t
theorem c42f : LawAt 3 2 false := told (n := 3) (t := 2) r42f
theorem c43t : LawAt 3 3 true := told (n := 3) (t := 3) r43t
theorem c43f : LawAt 3 3 false := told (n := 3) (t := 3) r43f
theorem c50t : LawAt 4 0 true := told (n := 4) (t := 0) r50t
theorem c50f : LawAt 4 0 false := told (n := 4) (t := 0) r50f
theorem c51t : LawAt 4 1 true := told (n := 4) (t := 1) r51t
theorem c51f : LawAt 4 1 false := told (n := 4) (t := 1) r51f
theorem c52t : LawAt 4 2 true := told (n := 4) (t := 2) r52t
theorem c52f : LawAt 4 2 false := told (n := 4) (t := 2) r52f
theorem c53t : LawAt 4 3 true := told (n := 4) (t := 3) r53t
theorem c53f : LawAt 4 3 false := told (n := 4) (t := 3) r53f
theorem c54t : LawAt 4 4 true := told (n := 4) (t := 4) r54t
theorem c54f : LawAt 4 4 false := told (n := 4) (t := 4) r54f
theorem c60t : LawAt 5 0 true := told (n := 5) (t := 0) r60t
theorem c60f : LawAt 5 0 false := told (n := 5) (t := 0) r60f
theorem c61t : LawAt 5 1 true := told (n := 5) (t := 1) r61t
theorem c61f : LawAt 5 1 false := told (n := 5) (t := 1) r61f
theorem c62t : LawAt 5 2 true := told (n := 5) (t := 2) r62t
theorem c62f : LawAt 5 2 false := told (n := 5) (t := 2) r62f
theorem c63t : LawAt 5 3 true := told (n := 5) (t := 3) r63t
theorem c63f : LawAt 5 3 false := told (n := 5) (t := 3) r63f
theorem c64t : LawAt 5 4 true := told (n := 5) (t := 4) r64t
theorem c64f : LawAt 5 4 false := told (n := 5) (t := 4) r64f
theorem c65t : LawAt 5 5 true := told (n := 5) (t := 5) r65t
theorem c65f : LawAt 5 5 false := told (n := 5) (t := 5) r65f
theorem law_small : ∀ n, n < 6 → ∀ t, t < 1 + n → ∀ b, LawAt n t b := by
  intro n hn t ht b
  match n, hn with
  | 0, _ =>
    match t, ht with
    | 0, _ => cases b; exact c10f; exact c10t
  | 1, _ =>
    match t, ht with
    | 0, _ => cases b; exact c20f; exact c20t
    | 1, _ => cases b; exact c21f; exact c21t
  | 2, _ =>
    match t, ht with
    | 0, _ => cases b; exact c30f; exact c30t
    | 1, _ => cases b; exact c31f; exact c31t
    | 2, _ => cases b; exact c32f; exact c32t
  | 3, _ =>
    match t, ht with
    | 0, _ => cases b; exact c40f; exact c40t
    | 1, _ => cases b; exact c41f; exact c41t
    | 2, _ => cases b; exact c42f; exact c42t
    | 3, _ => cases b; exact c43f; exact c43t
  | 4, _ =>
    match t, ht with
    | 0, _ => cases b; exact c50f; exact c50t
    | 1, _ => cases b; exact c51f; exact c51t
    | 2, _ => cases b; exact c52f; exact c52t
    | 3, _ => cases b; exact c53f; exact c53t
    | 4, _ => cases b; exact c54f; exact c54t
  | 5, _ =>
    match t, ht with
    | 0, _ => cases b; exact c60f; exact c60t
    | 1, _ => cases b; exact c61f; exact c61t
    | 2, _ => cases b; exact c62f; exact c62t
    | 3, _ => cases b; exact c63f; exact c63t
    | 4, _ => cases b; exact c64f; exact c64t
    | 5, _ => cases b; exact c65f; exact c65t
theorem law_all {n t : Nat} (hn : n < 256) (ht : t < 256) (b : Bool) : LawAt n t b := by
  have h := law_small (n % 6) (Nat.mod_lt _ (by decide)) (t % (1 + n % 6)) (Nat.mod_lt _ (by omega)) b
  unfold LawAt at h ⊢
  have e := law_reduce (n' := n % 6) (t' := t % (1 + n % 6)) hn (by omega) ht (Nat.lt_of_le_of_lt (Nat.mod_le _ _) ht) (by simp) (by simp) b 39 ⟨0, [], []⟩
  rw [show (40 : Nat) = 39 + 1 from rfl, e]
  exact h
end Go.Proofs.YtjjgiigbhjfkaaaGreatDoor
