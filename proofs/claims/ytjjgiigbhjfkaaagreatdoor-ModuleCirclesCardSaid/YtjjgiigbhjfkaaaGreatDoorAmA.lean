/- An executable abstract machine for the model's code and the proof that what it answers the program answers (part 1); no condition. -/
import Derived.Calls
import Derived.Laws.World
import GoSem.Dispatch
import Derived.Laws.Sem
import Derived.Laws.Strings
import Derived.Laws.StructEq
import Derived.Laws.Append
import Derived.Laws.BytesString
set_option linter.unusedSimpArgs false
set_option linter.unusedVariables false
namespace Go.Proofs.YtjjgiigbhjfkaaaGreatDoor.Am
open Go

/- Abstract values: what a program variable holds, memory named by the numbers of abstract blocks. -/
inductive V where
  | bool (b : Bool)
  | int (k : IntKind) (n : Int)
  | str (s : List Nat)
  | nilp
  | ptr (c off : Nat)
  | fp (cs : List V) (off : Nat)
  | nils
  | sl (c off len esz : Nat) (cap : Option Nat)
  | lst (cs : List V) (len : Nat) (clip : Bool)
  | nilm
  | mp (c : Nat)
  | fn (f : Nat) (cap : List V)
  | yield (c : Nat)
  | nilf
  | nili
  | iface (t : Nat) (v : V)
  | agg (cs : List V)
  | tup (vs : List V)
  deriving Inhabited

abbrev Frz := Nat → Option (Array Value)
abbrev Loc := Nat → Option (Nat × Nat)
def nowhere : Loc := fun _ => none

/-- An abstract value over a concrete one: F the frozen blocks, r where the abstract blocks lie (block, number of its cells). -/
inductive VR (F : Frz) : Loc → V → Value → Prop where
  | bool {r b} : VR F r (.bool b) (.bool b)
  | int {r k n} : VR F r (.int k n) (.int k n)
  | str {r} {s : List Nat} {b : ByteArray} : b.data.toList.map UInt8.toNat = s → VR F r (.str s) (.string b)
  | nilp {r} : VR F r .nilp (.pointer none)
  | ptr {r c off b N} : r c = some (b, N) → VR F r (.ptr c off) (.pointer (some ⟨b, off, none⟩))
  | fp {r cs off b o} {C : Array Value} : F b = some C → o + cs.length ≤ C.size →
      (∀ i (h1 : i < cs.length) (h2 : o + i < C.size), VR F nowhere cs[i] C[o + i]) → VR F r (.fp cs off) (.pointer (some ⟨b, o + off, none⟩))
  | nils {r} : VR F r .nils (.slice none 0 0)
  | sl {r c off off' len esz cap b N k} : r c = some (b, N) → (off' = off ∨ k = 0) → off + k * esz ≤ N → len ≤ k → (∀ m, cap = some m → k = m) →
      VR F r (.sl c off len esz cap) (.slice (some ⟨b, off', none⟩) len k)
  | lst {r cs len clip b o k} {C : Array Value} : F b = some C → o + cs.length ≤ C.size →
      (∀ i (h1 : i < cs.length) (h2 : o + i < C.size), VR F nowhere cs[i] C[o + i]) → len ≤ k → (clip = true → k = len) →
      VR F r (.lst cs len clip) (.slice (some ⟨b, o, none⟩) len k)
  | nilm {r} : VR F r .nilm (.map none)
  | mp {r c b N} : r c = some (b, N) → VR F r (.mp c) (.map (some b))
  | fn {r f} {cap : List V} {ucap : Array Value} : cap.length = ucap.size →
      (∀ i (h1 : i < cap.length) (h2 : i < ucap.size), VR F r cap[i] ucap[i]) → VR F r (.fn f cap) (.func (.func f) #[] ucap)
  | yield {r c b N} : r c = some (b, N) → VR F r (.yield c) (.func (.yield b) #[] #[])
  | nilf {r} : VR F r .nilf .nilFunc
  | nili {r} : VR F r .nili .nilIface
  | iface {r t v u} : VR F r v u → VR F r (.iface t v) (.iface t u)
  | agg {r} {cs : List V} {us : Array Value} : cs.length = us.size →
      (∀ i (h1 : i < cs.length) (h2 : i < us.size), VR F r cs[i] us[i]) → VR F r (.agg cs) (.agg us)
  | tup {r} {cs : List V} {us : Array Value} : cs.length = us.size →
      (∀ i (h1 : i < cs.length) (h2 : i < us.size), VR F r cs[i] us[i]) → VR F r (.tup cs) (.tuple us)

def Frz.le (F F' : Frz) : Prop := ∀ b C, F b = some C → F' b = some C
def Loc.le (r r' : Loc) : Prop := ∀ c x, r c = some x → r' c = some x

theorem Frz.le_refl (F : Frz) : F.le F := fun _ _ h => h
theorem Loc.le_refl (r : Loc) : r.le r := fun _ _ h => h
theorem Frz.le_trans {F F' F'' : Frz} (h : F.le F') (h' : F'.le F'') : F.le F'' := fun _ _ e => h' _ _ (h _ _ e)
theorem Loc.le_trans {F F' F'' : Loc} (h : F.le F') (h' : F'.le F'') : F.le F'' := fun _ _ e => h' _ _ (h _ _ e)
theorem nowhere_le (r : Loc) : nowhere.le r := fun _ _ h => by cases h

theorem VR.mono {F F' : Frz} {r r' : Loc} {v u} (h : VR F r v u) (hF : F.le F') (hr : r.le r') : VR F' r' v u := by
  induction h generalizing r' with
  | bool => exact .bool
  | int => exact .int
  | str e => exact .str e
  | nilp => exact .nilp
  | ptr e => exact .ptr (hr _ _ e)
  | fp e hl _ ih => exact .fp (hF _ _ e) hl fun i h1 h2 => ih i h1 h2 (Loc.le_refl _)
  | nils => exact .nils
  | sl e h0 h1 h2 h3 => exact .sl (hr _ _ e) h0 h1 h2 h3
  | lst e hl _ h1 h2 ih => exact .lst (hF _ _ e) hl (fun i h1 h2 => ih i h1 h2 (Loc.le_refl _)) h1 h2
  | nilm => exact .nilm
  | mp e => exact .mp (hr _ _ e)
  | fn e _ ih => exact .fn e fun i h1 h2 => ih i h1 h2 hr
  | yield e => exact .yield (hr _ _ e)
  | nilf => exact .nilf
  | nili => exact .nili
  | iface _ ih => exact .iface (ih hr)
  | agg e _ ih => exact .agg e fun i h1 h2 => ih i h1 h2 hr
  | tup e _ ih => exact .tup e fun i h1 h2 => ih i h1 h2 hr

/- All abstract blocks that a value names lie below n. -/
mutual
def V.under (n : Nat) : V → Bool
  | .ptr c _ | .sl c .. | .mp c | .yield c => decide (c < n)
  | .fn _ cap => V.unders n cap
  | .iface _ v => v.under n
  | .agg cs | .tup cs => V.unders n cs
  | _ => true
def V.unders (n : Nat) : List V → Bool
  | [] => true
  | v :: vs => v.under n && V.unders n vs
end

theorem V.unders_get {n : Nat} {vs : List V} (h : V.unders n vs = true) (i : Nat) (hi : i < vs.length) : vs[i].under n = true := by
  induction vs generalizing i with
  | nil => cases hi
  | cons v vs ih =>
    simp only [V.unders, Bool.and_eq_true] at h
    cases i with
    | zero => exact h.1
    | succ i => exact ih h.2 i _

theorem VR.cut {F : Frz} {r r' : Loc} {v u} {n : Nat} (h : VR F r v u) (hv : v.under n = true) (hr : ∀ c x, c < n → r c = some x → r' c = some x) :
    VR F r' v u := by
  induction h generalizing r' with
  | bool => exact .bool
  | int => exact .int
  | str e => exact .str e
  | nilp => exact .nilp
  | ptr e => exact .ptr (hr _ _ (by simpa [V.under] using hv) e)
  | fp e hl hc _ => exact .fp e hl hc
  | nils => exact .nils
  | sl e h0 h1 h2 h3 => exact .sl (hr _ _ (by simpa [V.under] using hv) e) h0 h1 h2 h3
  | lst e hl hc h1 h2 _ => exact .lst e hl hc h1 h2
  | nilm => exact .nilm
  | mp e => exact .mp (hr _ _ (by simpa [V.under] using hv) e)
  | fn e _ ih => exact .fn e fun i h1 h2 => ih i h1 h2 (V.unders_get (by simpa [V.under] using hv) i h1) hr
  | yield e => exact .yield (hr _ _ (by simpa [V.under] using hv) e)
  | nilf => exact .nilf
  | nili => exact .nili
  | iface _ ih => exact .iface (ih (by simpa [V.under] using hv) hr)
  | agg e _ ih => exact .agg e fun i h1 h2 => ih i h1 h2 (V.unders_get (by simpa [V.under] using hv) i h1) hr
  | tup e _ ih => exact .tup e fun i h1 h2 => ih i h1 h2 (V.unders_get (by simpa [V.under] using hv) i h1) hr

/- Lists of values against arrays of values. -/
def VRs (F : Frz) (r : Loc) (vs : List V) (us : Array Value) : Prop :=
  vs.length = us.size ∧ ∀ i (h1 : i < vs.length) (h2 : i < us.size), VR F r vs[i] us[i]

theorem VRs.mono {F F' : Frz} {r r' : Loc} {vs us} (h : VRs F r vs us) (hF : F.le F') (hr : r.le r') : VRs F' r' vs us :=
  ⟨h.1, fun i h1 h2 => (h.2 i h1 h2).mono hF hr⟩

theorem VRs.nil {F r} : VRs F r [] #[] := ⟨rfl, fun i h => by cases h⟩
theorem VRs.push {F r vs us v u} (h : VRs F r vs us) (hv : VR F r v u) : VRs F r (vs ++ [v]) (us.push u) := by
  refine ⟨by simp [h.1], fun i h1 h2 => ?_⟩
  by_cases hi : i < vs.length
  · simp only [List.getElem_append, hi, dif_pos, Array.getElem_push]
    rw [dif_pos (h.1 ▸ hi)]
    exact h.2 i hi _
  · have hi' : i = vs.length := by simp at h1; omega
    subst hi'
    simp only [List.getElem_append, Nat.lt_irrefl, dif_neg, not_false_eq_true, Nat.sub_self, List.getElem_singleton, Array.getElem_push]
    rw [dif_neg (by rw [h.1]; exact Nat.lt_irrefl _)]
    exact hv
theorem VRs.append {F r vs us vs' us'} (h : VRs F r vs us) (h' : VRs F r vs' us') : VRs F r (vs ++ vs') (us ++ us') := by
  refine ⟨by simp [h.1, h'.1], fun i h1 h2 => ?_⟩
  by_cases hi : i < vs.length
  · simp only [List.getElem_append, hi, dif_pos, Array.getElem_append]
    rw [dif_pos (h.1 ▸ hi)]
    exact h.2 i hi _
  · simp only [List.getElem_append, hi, dif_neg, not_false_eq_true, Array.getElem_append]
    rw [dif_neg (h.1 ▸ hi)]
    simp only [h.1]
    exact h'.2 _ _ _


/- Equality of abstract values. -/
mutual
def V.eq : V → V → Bool
  | .bool a, .bool b => a == b
  | .int j a, .int k b => decide (j = k) && decide (a = b)
  | .str a, .str b => decide (a = b)
  | .nilp, .nilp | .nils, .nils | .nilm, .nilm | .nilf, .nilf | .nili, .nili => true
  | .ptr c o, .ptr c' o' => decide (c = c') && decide (o = o')
  | .fp cs o, .fp cs' o' => decide (o = o') && V.eqs cs cs'
  | .sl c o l e k, .sl c' o' l' e' k' => decide (c = c') && decide (o = o') && decide (l = l') && decide (e = e') && decide (k = k')
  | .lst cs l k, .lst cs' l' k' => decide (l = l') && decide (k = k') && V.eqs cs cs'
  | .mp c, .mp c' => decide (c = c')
  | .fn f cs, .fn f' cs' => decide (f = f') && V.eqs cs cs'
  | .yield c, .yield c' => decide (c = c')
  | .iface t v, .iface t' v' => decide (t = t') && V.eq v v'
  | .agg cs, .agg cs' => V.eqs cs cs'
  | .tup cs, .tup cs' => V.eqs cs cs'
  | _, _ => false
def V.eqs : List V → List V → Bool
  | [], [] => true
  | v :: vs, v' :: vs' => V.eq v v' && V.eqs vs vs'
  | _, _ => false
end

mutual
theorem V.eq_sound : ∀ (v v' : V), V.eq v v' = true → v = v'
  | .bool a, v', h => by cases v' <;> simp_all [V.eq]
  | .int j a, v', h => by cases v' <;> simp_all [V.eq]
  | .str a, v', h => by cases v' <;> simp_all [V.eq]
  | .nilp, v', h => by cases v' <;> simp_all [V.eq]
  | .nils, v', h => by cases v' <;> simp_all [V.eq]
  | .nilm, v', h => by cases v' <;> simp_all [V.eq]
  | .nilf, v', h => by cases v' <;> simp_all [V.eq]
  | .nili, v', h => by cases v' <;> simp_all [V.eq]
  | .ptr c o, v', h => by cases v' <;> simp_all [V.eq]
  | .sl c o l e k, v', h => by cases v' <;> simp_all [V.eq]
  | .mp c, v', h => by cases v' <;> simp_all [V.eq]
  | .yield c, v', h => by cases v' <;> simp_all [V.eq]
  | .fp cs o, v', h => by
    cases v' <;> simp only [V.eq, Bool.and_eq_true, decide_eq_true_eq, Bool.false_eq_true] at h
    obtain ⟨rfl, h⟩ := h; rw [V.eqs_sound cs _ h]
  | .lst cs l k, v', h => by
    cases v' <;> simp only [V.eq, Bool.and_eq_true, decide_eq_true_eq, Bool.false_eq_true] at h
    obtain ⟨⟨rfl, rfl⟩, h⟩ := h; rw [V.eqs_sound cs _ h]
  | .fn f cs, v', h => by
    cases v' <;> simp only [V.eq, Bool.and_eq_true, decide_eq_true_eq, Bool.false_eq_true] at h
    obtain ⟨rfl, h⟩ := h; rw [V.eqs_sound cs _ h]
  | .iface t v, v', h => by
    cases v' <;> simp only [V.eq, Bool.and_eq_true, decide_eq_true_eq, Bool.false_eq_true] at h
    obtain ⟨rfl, h⟩ := h; rw [V.eq_sound v _ h]
  | .agg cs, v', h => by
    cases v' <;> simp only [V.eq, Bool.false_eq_true] at h
    rw [V.eqs_sound cs _ h]
  | .tup cs, v', h => by
    cases v' <;> simp only [V.eq, Bool.false_eq_true] at h
    rw [V.eqs_sound cs _ h]
theorem V.eqs_sound : ∀ (vs vs' : List V), V.eqs vs vs' = true → vs = vs'
  | [], vs', h => by cases vs' <;> simp_all [V.eqs]
  | v :: vs, vs', h => by
    cases vs' <;> simp only [V.eqs, Bool.and_eq_true, Bool.false_eq_true] at h
    rw [V.eq_sound v _ h.1, V.eqs_sound vs _ h.2]
end

mutual
theorem V.eq_refl : ∀ v : V, V.eq v v = true
  | .bool a => by simp [V.eq]
  | .int j a => by simp [V.eq]
  | .str a => by simp [V.eq]
  | .nilp | .nils | .nilm | .nilf | .nili => by simp [V.eq]
  | .ptr c o => by simp [V.eq]
  | .sl c o l e k => by simp [V.eq]
  | .mp c | .yield c => by simp [V.eq]
  | .fp cs o => by simp [V.eq, V.eqs_refl cs]
  | .lst cs l k => by simp [V.eq, V.eqs_refl cs]
  | .fn f cs => by simp [V.eq, V.eqs_refl cs]
  | .iface t v => by simp [V.eq, V.eq_refl v]
  | .agg cs => by simp [V.eq, V.eqs_refl cs]
  | .tup cs => by simp [V.eq, V.eqs_refl cs]
theorem V.eqs_refl : ∀ vs : List V, V.eqs vs vs = true
  | [] => by simp [V.eqs]
  | v :: vs => by simp [V.eqs, V.eq_refl v, V.eqs_refl vs]
end

end Go.Proofs.YtjjgiigbhjfkaaaGreatDoor.Am

namespace Go.Proofs.YtjjgiigbhjfkaaaGreatDoor.Am
open Go

inductive X where
  | t (i : Nat)
  | c (v : V)
  deriving Inhabited

inductive EqD where
  | bool | int | str | ptr | sl | map | func | iface
  | struct (fs : List (Nat × Nat × Bool × EqD))
  deriving Inhabited

inductive SlK where
  | str | sl | arr (n : Nat)
  deriving Inhabited

inductive LenK where
  | str | sl | map | const (n : Nat)
  deriving Inhabited

/-- The operations, with all that the types tell written into them. -/
inductive IOp where
  | mov (x : X)
  | pick (c a b : X)
  | alloc (e : Nat) (zs : List V)
  | box (e size : Nat) (x : X)
  | build (zs : List V) (parts : List (Nat × Nat × X))
  | buildS (e esz len : Nat) (zs : List V) (parts : List (Nat × Nat × X))
  | load (agg : Bool) (size : Nat) (a : X)
  | store (size : Nat) (a x : X)
  | nilck (x : X)
  | bin (op : BinOp) (x y : X)
  | eqd (neg : Bool) (d : EqD) (x y : X)
  | un (op : UnOp) (x : X)
  | conv (k : IntKind) (x : X)
  | same (x : X)
  | s2b (e : Nat) (x : X)
  | b2s (x : X)
  | mkif (t : Nat) (x : X)
  | mkfn (f : Nat) (caps : List X)
  | mkmap
  | mksl (e esz bytes : Nat) (zs : List V) (l c : X)
  | slice (k : SlK) (esz : Nat) (x : X) (lo hi mx : Option X)
  | faddr (off : Nat) (x : X)
  | fld (agg : Bool) (off size : Nat) (x : X)
  | iadr (arr : Option Nat) (esz : Nat) (x i : X)
  | idxs (x i : X)
  | idxa (agg : Bool) (len esz : Nat) (x i : X)
  | look (kd : EqD) (zero : V) (ok : Bool) (m k : X)
  | mupd (kd : EqD) (m k v : X)
  | mdel (kd : EqD) (m k : X)
  | ment (kd : EqD) (zero : V) (m k : X)
  | mest (m s v : X)
  | len (k : LenK) (x : X)
  | app (e esz bytes : Nat) (s x : X)
  | copy (esz : Nat) (d s : X)
  | mn (x y : X)
  | mx (x y : X)
  | rngs (x : X)
  | nexts (it : X)
  | rngm (x : X)
  | nextm (it : X)
  | extr (i : Nat) (x : X)
  | call (f : X) (args : List X)
  | panic (x : X)
  deriving Inhabited

structure Ins where
  dst : Option Nat
  op : IOp
  guard : Option (Nat × Bool)
  deriving Inhabited

inductive IR where
  | skip
  | seq (a b : IR)
  | region (is : List Ins)
  | draw (is : List Ins) (before : List Nat) (order : List Nat)
  | cond (x : X) (a b : IR)
  | block (id : Nat) (a : IR)
  | loop (a : IR)
  | exit (id : Nat)
  | ret
  | rangeFunc (f : X) (params : List Nat) (assign body : IR)
  deriving Inhabited

inductive LState where
  | ready | busy | done | exhausted
  deriving DecidableEq, Inhabited

inductive Jump where
  | exit (id : Nat)
  | ret
  deriving Inhabited

structure LoopC where
  state : LState
  pending : Option Jump
  tmps : List V
  params : List Nat
  assign : IR
  body : IR
  deriving Inhabited

inductive Chunk where
  | cells (e : Nat) (cs : List V) (ro : Bool)
  | map (es : List (V × V × Nat)) (clock : Nat)
  | loop (l : LoopC)
  | siter (s : List Nat) (pos : Nat)
  | miter (c : Option Nat)
  | dead
  deriving Inhabited

structure Mem where
  size : Nat
  l : List Chunk
  d : List Nat
  deriving Inhabited

def Mem.get (m : Mem) (c : Nat) : Option Chunk :=
  if c < m.size then
    match m.l[m.size - 1 - c]? with
    | some .dead => none
    | x => x
  else none
def Mem.set (m : Mem) (c : Nat) (x : Chunk) : Mem := { m with l := m.l.set (m.size - 1 - c) x, d := c :: m.d }
def Mem.push (m : Mem) (x : Chunk) : Mem := { m with size := m.size + 1, l := x :: m.l }

theorem Mem.get_lt {m : Mem} {c ch} (h : m.get c = some ch) : c < m.size := by
  unfold Mem.get at h
  split at h
  · assumption
  · cases h
theorem Mem.get_ge {m : Mem} {c} (h : m.size ≤ c) : m.get c = none := by
  unfold Mem.get
  rw [if_neg (by omega)]
@[simp] theorem Mem.size_push (m : Mem) (x : Chunk) : (m.push x).size = m.size + 1 := rfl
@[simp] theorem Mem.size_set (m : Mem) (c : Nat) (x : Chunk) : (m.set c x).size = m.size := rfl
theorem Mem.get_push_old {m : Mem} {x : Chunk} {c : Nat} (h : c < m.size) : (m.push x).get c = m.get c := by
  unfold Mem.get Mem.push
  simp only
  rw [if_pos (by omega), if_pos h]
  have : m.size + 1 - 1 - c = (m.size - 1 - c) + 1 := by omega
  rw [this, List.getElem?_cons_succ]
theorem Mem.get_push_new {m : Mem} {x : Chunk} (h : x ≠ .dead) : (m.push x).get m.size = some x := by
  unfold Mem.get Mem.push
  simp only
  rw [if_pos (by omega)]
  have : m.size + 1 - 1 - m.size = 0 := by omega
  rw [this, List.getElem?_cons_zero]
  cases x <;> simp_all
theorem Mem.get_push {m : Mem} {x : Chunk} {c : Nat} {ch} (h : (m.push x).get c = some ch) : (c < m.size ∧ m.get c = some ch) ∨ (c = m.size ∧ ch = x) := by
  have hlt := Mem.get_lt h
  simp at hlt
  by_cases hc : c < m.size
  · exact .inl ⟨hc, by rw [← Mem.get_push_old (x := x) hc]; exact h⟩
  · have : c = m.size := by omega
    subst this
    refine .inr ⟨rfl, ?_⟩
    unfold Mem.get Mem.push at h
    simp only at h
    rw [if_pos (by omega)] at h
    have : m.size + 1 - 1 - m.size = 0 := by omega
    rw [this, List.getElem?_cons_zero] at h
    cases x <;> simp_all
theorem Mem.get_set_other {m : Mem} {c c' : Nat} {x : Chunk} (h : c' ≠ c) (hc : c < m.size) : (m.set c x).get c' = m.get c' := by
  unfold Mem.get Mem.set
  simp only
  split
  · rw [List.getElem?_set_ne (by omega)]
  · rfl
theorem Mem.get_set_same {m : Mem} {c : Nat} {x ch : Chunk} (hc : m.get c = some ch) (hx : x ≠ .dead) : (m.set c x).get c = some x := by
  have hlt := Mem.get_lt hc
  unfold Mem.get at hc ⊢
  unfold Mem.set
  simp only at hc ⊢
  rw [if_pos hlt] at hc ⊢
  have hi : m.size - 1 - c < m.l.length := by
    by_cases h : m.size - 1 - c < m.l.length
    · exact h
    · rw [List.getElem?_eq_none (by omega)] at hc; cases hc
  rw [List.getElem?_set_self hi]
  cases x <;> simp_all
theorem Mem.get_set_dead {m : Mem} {c : Nat} {ch : Chunk} (hc : m.get c = some ch) : (m.set c .dead).get c = none := by
  have hlt := Mem.get_lt hc
  unfold Mem.get at hc ⊢
  unfold Mem.set
  simp only at hc ⊢
  rw [if_pos hlt] at hc ⊢
  have hi : m.size - 1 - c < m.l.length := by
    by_cases h : m.size - 1 - c < m.l.length
    · exact h
    · rw [List.getElem?_eq_none (by omega)] at hc; cases hc
  rw [List.getElem?_set_self hi]
theorem Mem.get_set {m : Mem} {c c' : Nat} {x ch ch0 : Chunk} (h0 : m.get c = some ch0) (h : (m.set c x).get c' = some ch) :
    (c' = c ∧ ch = x ∧ x ≠ .dead) ∨ (c' ≠ c ∧ m.get c' = some ch) := by
  by_cases hc : c' = c
  · subst hc
    by_cases hx : x = .dead
    · subst hx; rw [Mem.get_set_dead h0] at h; cases h
    · rw [Mem.get_set_same h0 hx] at h; cases h; exact .inl ⟨rfl, rfl, hx⟩
  · rw [Mem.get_set_other hc (Mem.get_lt h0)] at h
    exact .inr ⟨hc, h⟩

theorem Mem.dirt_set {m : Mem} {c c' : Nat} {x : Chunk} (_hc' : c' < m.size) (hd : c' ∉ (m.set c x).d) {ch : Chunk} (hc : m.get c = some ch) :
    c' ∉ m.d ∧ (m.set c x).get c' = m.get c' := by
  have hd' : c' ∉ c :: m.d := hd
  simp only [List.mem_cons, not_or] at hd'
  exact ⟨hd'.2, Mem.get_set_other hd'.1 (Mem.get_lt hc)⟩

theorem Mem.dead_set {m : Mem} {c c' : Nat} {x : Chunk} (hd : m.get c' = none) {ch : Chunk} (hc : m.get c = some ch) : (m.set c x).get c' = none := by
  have hne : c' ≠ c := by rintro rfl; rw [hc] at hd; cases hd
  rw [Mem.get_set_other hne (Mem.get_lt hc)]; exact hd

/-- The codes of the source's loops, by their compiled forms. -/
abbrev CodeR := IR → Code → Prop

def JumpR : Option Jump → Option Code → Prop
  | none, none => True
  | some .ret, some .ret => True
  | some (.exit id), some (.exit id') => id = id'
  | _, _ => False
def StateR : LState → LoopState → Prop
  | .ready, .ready | .busy, .busy | .done, .done | .exhausted, .exhausted => True
  | _, _ => False

/-- A block of the memory over an object of the heap; K says which code is which compiled code's. -/
inductive ObjR (K : CodeR) (F : Frz) (r : Loc) (N : Nat) : Chunk → Obj → Prop where
  | cells {e cs ro} {C : Array Value} {fr : Nat × Nat} : C.size = N → (hle : cs.length ≤ C.size) →
      (∀ i (h1 : i < cs.length) (h2 : i < C.size), VR F r cs[i] C[i]) →
      (∀ i, i < C.size → (ro = true → cs.length ≤ i) → ¬ (fr.1 ≤ i ∧ i < fr.2)) → ObjR K F r N (.cells e cs ro) (.cells C e fr)
  | map {es : List (V × V × Nat)} {us : Array MapEntry} {clock} : es.length = us.size →
      (∀ i (h1 : i < es.length) (h2 : i < us.size), VR F r es[i].1 us[i].key ∧ VR F r es[i].2.1 us[i].val ∧ es[i].2.2 = us[i].born) →
      ObjR K F r N (.map es clock) (.map us clock)
  | loop {l : LoopC} {u : Loop} : StateR l.state u.state → JumpR l.pending u.pending → VRs F r l.tmps u.tmps → l.params = u.params.toList →
      K l.assign u.assign → K l.body u.body → ObjR K F r N (.loop l) (.loop u)
  | siter {s : List Nat} {b : ByteArray} {pos} : b.data.toList.map UInt8.toNat = s → ObjR K F r N (.siter s pos) (.stringIter b pos)
  | miter0 {s s'} : ObjR K F r N (.miter none) (.mapIter none s #[] s')
  | miter {c b N' s s'} : r c = some (b, N') → ObjR K F r N (.miter (some c)) (.mapIter (some b) s #[] s')

theorem ObjR.mono {K F F' r r' N ch o} (h : ObjR K F r N ch o) (hF : Frz.le F F') (hr : Loc.le r r') : ObjR K F' r' N ch o := by
  cases h with
  | cells h1 h2 h3 h4 => exact .cells h1 h2 (fun i a b => (h3 i a b).mono hF hr) h4
  | map h1 h2 => exact .map h1 fun i a b => ⟨(h2 i a b).1.mono hF hr, (h2 i a b).2.1.mono hF hr, (h2 i a b).2.2⟩
  | loop h1 h2 h3 h4 h5 h6 => exact .loop h1 h2 (h3.mono hF hr) h4 h5 h6
  | siter h => exact .siter h
  | miter0 => exact .miter0
  | miter h => exact .miter (hr _ _ h)

structure Sim (K : CodeR) (F : Frz) (r : Loc) (m : Mem) (w : World) : Prop where
  dom : ∀ c x, r c = some x → c < m.size
  obj : ∀ c ch, m.get c = some ch → ∃ b N o, r c = some (b, N) ∧ w.heap[b]? = some o ∧ ObjR K F r N ch o ∧ F b = none
  inj : ∀ c c' ch ch' b N N', m.get c = some ch → m.get c' = some ch' → r c = some (b, N) → r c' = some (b, N') → c = c'
  frz : ∀ b C, F b = some C → ∃ e fr, w.heap[b]? = some (.cells C e fr)

def Owned (m : Mem) (r : Loc) (b : Nat) : Prop := ∃ c ch N, m.get c = some ch ∧ r c = some (b, N)

structure St (F : Frz) (r : Loc) (m : Mem) (w : World) (F' : Frz) (r' : Loc) (m' : Mem) (w' : World) : Prop where
  size : w.heap.size ≤ w'.heap.size
  msize : m.size ≤ m'.size
  keep : ∀ b, b < w.heap.size → ¬ Owned m r b → w'.heap[b]? = w.heap[b]?
  own : ∀ b, b < w.heap.size → Owned m' r' b → Owned m r b
  frz : ∀ b, b < w.heap.size → F b = none → F' b ≠ none → Owned m r b
  leF : F.le F'
  ler : ∀ c, c < m.size → r' c = r c
  dirt : ∀ c, c < m.size → c ∉ m'.d → c ∉ m.d ∧ m'.get c = m.get c
  dead : ∀ c, c < m.size → m.get c = none → m'.get c = none
  io : w'.os = w.os ∧ w'.output = w.output

theorem St.refl (F r m w) : St F r m w F r m w :=
  ⟨Nat.le_refl _, Nat.le_refl _, fun _ _ _ => rfl, fun _ _ h => h, fun _ _ h h' => absurd h h', Frz.le_refl _, fun _ _ => rfl, fun _ _ h => ⟨h, rfl⟩, fun _ _ h => h, rfl, rfl⟩
theorem St.trans {F r m w F' r' m' w' F'' r'' m'' w''} (h : St F r m w F' r' m' w') (h' : St F' r' m' w' F'' r'' m'' w'') : St F r m w F'' r'' m'' w'' where
  size := Nat.le_trans h.size h'.size
  msize := Nat.le_trans h.msize h'.msize
  keep b hb ho := by rw [h'.keep b (Nat.lt_of_lt_of_le hb h.size) (fun o => ho (h.own b hb o)), h.keep b hb ho]
  own b hb o := h.own b hb (h'.own b (Nat.lt_of_lt_of_le hb h.size) o)
  frz b hb hn hn' := by
    by_cases e : F' b = none
    · exact h.own b hb (h'.frz b (Nat.lt_of_lt_of_le hb h.size) e hn')
    · exact h.frz b hb hn e
  leF := Frz.le_trans h.leF h'.leF
  ler c hc := by rw [h'.ler c (Nat.lt_of_lt_of_le hc h.msize), h.ler c hc]
  dirt c hc hd := by
    obtain ⟨h1, h2⟩ := h'.dirt c (Nat.lt_of_lt_of_le hc h.msize) hd
    obtain ⟨h3, h4⟩ := h.dirt c hc h1
    exact ⟨h3, by rw [h2, h4]⟩
  dead c hc hd := h'.dead c (Nat.lt_of_lt_of_le hc h.msize) (h.dead c hc hd)
  io := ⟨by rw [h'.io.1, h.io.1], by rw [h'.io.2, h.io.2]⟩

theorem Sim.ler {K F r m w F' r' m' w'} (s : Sim K F r m w) (h : St F r m w F' r' m' w') : r.le r' :=
  fun c x hx => by rw [h.ler c (s.dom c x hx)]; exact hx
theorem Sim.block_lt {K F r m w c ch b N} (s : Sim K F r m w) (h : m.get c = some ch) (hr : r c = some (b, N)) : b < w.heap.size := by
  obtain ⟨b', N', o, h1, h2, _⟩ := s.obj c ch h
  rw [hr] at h1; cases h1
  exact (Array.getElem?_eq_some_iff.1 h2).1

/-- A world with the same heap serves as well. -/
theorem Sim.world {K F r m w w'} (s : Sim K F r m w) (h : w'.heap = w.heap) : Sim K F r m w' :=
  ⟨s.dom, by rw [h]; exact s.obj, s.inj, by rw [h]; exact s.frz⟩
theorem St.world {F r m w w'} (h : w'.heap = w.heap) (hio : w'.os = w.os ∧ w'.output = w.output) : St F r m w F r m w' :=
  ⟨by rw [h]; exact Nat.le_refl _, Nat.le_refl _, fun _ _ _ => by rw [h], fun _ _ h => h, fun _ _ h h' => absurd h h', Frz.le_refl _, fun _ _ => rfl, fun _ _ h => ⟨h, rfl⟩, fun _ _ h => h, hio⟩

def Loc.put (r : Loc) (c : Nat) (x : Nat × Nat) : Loc := fun c' => if c' = c then some x else r c'
@[simp] theorem Loc.put_same (r : Loc) (c x) : r.put c x c = some x := by simp [Loc.put]
theorem Loc.put_other {r : Loc} {c c' x} (h : c' ≠ c) : r.put c x c' = r c' := by simp [Loc.put, h]

theorem alloc_heap (w : World) (o : Obj) : (w.alloc o).heap = w.heap.push o := rfl

theorem Sim.le_put {K F r m w} (s : Sim K F r m w) (x) : r.le (r.put m.size x) := fun c y hy => by
  have := s.dom c y hy
  rw [Loc.put_other (by omega)]; exact hy

/-- A new block. -/
theorem Sim.push {K F r m w ch o N} (s : Sim K F r m w) (ho : ObjR K F (r.put m.size (w.heap.size, N)) N ch o) :
    Sim K F (r.put m.size (w.heap.size, N)) (m.push ch) (w.alloc o) := by
  refine ⟨fun c x hx => ?_, fun c ch' hc => ?_, fun c c' ch1 ch2 b N1 N2 h1 h2 e1 e2 => ?_, fun b C hb => ?_⟩
  · by_cases h : c = m.size
    · subst h; simp
    · rw [Loc.put_other h] at hx; have := s.dom c x hx; simp; omega
  · rcases Mem.get_push hc with ⟨hlt, hg⟩ | ⟨rfl, rfl⟩
    · obtain ⟨b, N', o', h1, h2, h3, h4⟩ := s.obj c ch' hg
      refine ⟨b, N', o', by rw [Loc.put_other (by omega)]; exact h1, ?_, h3.mono (Frz.le_refl _) (s.le_put _), h4⟩
      have := (Array.getElem?_eq_some_iff.1 h2).1
      rw [alloc_heap, Array.getElem?_push]
      rw [if_neg (by omega)]; exact h2
    · refine ⟨_, N, o, Loc.put_same .., by rw [alloc_heap]; simp, ho, ?_⟩
      cases hF : F w.heap.size with
      | none => rfl
      | some C => obtain ⟨e, fr, h⟩ := s.frz _ _ hF; simp at h
  · rcases Mem.get_push h1 with ⟨l1, g1⟩ | ⟨rfl, rfl⟩ <;> rcases Mem.get_push h2 with ⟨l2, g2⟩ | ⟨rfl, rfl⟩
    · rw [Loc.put_other (by omega)] at e1 e2
      exact s.inj c c' ch1 ch2 b N1 N2 g1 g2 e1 e2
    · rw [Loc.put_other (by omega)] at e1
      have := s.block_lt g1 e1
      simp at e2; omega
    · rw [Loc.put_other (by omega)] at e2
      have := s.block_lt g2 e2
      simp at e1; omega
    · rfl
  · obtain ⟨e, fr, h⟩ := s.frz b C hb
    have := (Array.getElem?_eq_some_iff.1 h).1
    exact ⟨e, fr, by rw [alloc_heap, Array.getElem?_push, if_neg (by omega)]; exact h⟩

theorem Sim.st_push {K F r m w} (_s : Sim K F r m w) (ch : Chunk) (o : Obj) (N : Nat) :
    St F r m w F (r.put m.size (w.heap.size, N)) (m.push ch) (w.alloc o) where
  size := by simp
  msize := by simp
  keep b hb _ := by rw [alloc_heap, Array.getElem?_push]; rw [if_neg (by omega)]
  own b hb := by
    rintro ⟨c, ch', N', hc, hr⟩
    rcases Mem.get_push hc with ⟨hlt, hg⟩ | ⟨rfl, rfl⟩
    · rw [Loc.put_other (by omega)] at hr; exact ⟨c, ch', N', hg, hr⟩
    · simp at hr; omega
  frz b hb h h' := absurd h h'
  leF := Frz.le_refl _
  ler c hc := by rw [Loc.put_other (by omega)]
  dirt c hc hd := ⟨hd, Mem.get_push_old hc⟩
  dead c hc hd := by rw [Mem.get_push_old hc]; exact hd
  io := ⟨rfl, rfl⟩

/-- The heap's block b becomes o. -/
def putB (w : World) (b : Nat) (o : Obj) : World := { w with heap := w.heap.setIfInBounds b o }
@[simp] theorem putB_size (w : World) (b : Nat) (o : Obj) : (putB w b o).heap.size = w.heap.size := by simp [putB]
theorem putB_same {w : World} {b : Nat} {o : Obj} (h : b < w.heap.size) : (putB w b o).heap[b]? = some o := by simp [putB, h]
theorem putB_other {w : World} {b b' : Nat} {o : Obj} (h : b' ≠ b) : (putB w b o).heap[b']? = w.heap[b']? := by
  simp [putB, Array.getElem?_setIfInBounds_ne (Ne.symm h)]
theorem putB_putB (w : World) (b : Nat) (o o' : Obj) : putB (putB w b o) b o' = putB w b o' := by
  simp [putB, Array.setIfInBounds_setIfInBounds]
theorem putB_id {w : World} {b : Nat} {o : Obj} (h : w.heap[b]? = some o) : putB w b o = w := by
  unfold putB
  have : w.heap.setIfInBounds b o = w.heap := by
    apply Array.ext (by simp)
    intro i h1 h2
    by_cases e : i = b
    · subst e
      obtain ⟨_, h'⟩ := Array.getElem?_eq_some_iff.1 h
      simp [h']
    · rw [Array.getElem_setIfInBounds_ne (h := fun h => e h.symm)]
  rw [this]

/-- An abstract block is written. -/
theorem Sim.set {K F r m w c ch ch' b N o} (s : Sim K F r m w) (hc : m.get c = some ch) (hr : r c = some (b, N)) (ho : ObjR K F r N ch' o) :
    Sim K F r (m.set c ch') (putB w b o) := by
  have hlt := s.block_lt hc hr
  refine ⟨fun c' x hx => by simpa using s.dom c' x hx, fun c' ch1 h1 => ?_, fun c1 c2 ch1 ch2 b' N1 N2 h1 h2 e1 e2 => ?_, fun b' C hb => ?_⟩
  · rcases Mem.get_set hc h1 with ⟨rfl, rfl, _⟩ | ⟨hne, hg⟩
    · obtain ⟨b', N', o', g1, g2, g3, g4⟩ := s.obj _ _ hc
      rw [hr] at g1; cases g1
      exact ⟨b, N, o, hr, putB_same hlt, ho, g4⟩
    · obtain ⟨b', N', o', g1, g2, g3, g4⟩ := s.obj _ _ hg
      refine ⟨b', N', o', g1, ?_, g3, g4⟩
      rw [putB_other]; exact g2
      intro e; subst e
      exact hne (s.inj _ _ _ _ _ _ _ hg hc g1 hr)
  · have l1 : ∃ ch1, m.get c1 = some ch1 := by
      rcases Mem.get_set hc h1 with ⟨rfl, _⟩ | ⟨_, hg⟩
      · exact ⟨_, hc⟩
      · exact ⟨_, hg⟩
    have l2 : ∃ ch1, m.get c2 = some ch1 := by
      rcases Mem.get_set hc h2 with ⟨rfl, _⟩ | ⟨_, hg⟩
      · exact ⟨_, hc⟩
      · exact ⟨_, hg⟩
    obtain ⟨_, l1⟩ := l1
    obtain ⟨_, l2⟩ := l2
    exact s.inj _ _ _ _ _ _ _ l1 l2 e1 e2
  · obtain ⟨e, fr, h⟩ := s.frz b' C hb
    refine ⟨e, fr, ?_⟩
    rw [putB_other]; exact h
    intro e; subst e
    obtain ⟨b1, N', o', g1, g2, g3, g4⟩ := s.obj _ _ hc
    rw [hr] at g1; cases g1
    rw [g4] at hb; cases hb

theorem Sim.st_set {K F r m w c ch b N} (_s : Sim K F r m w) (hc : m.get c = some ch) (hr : r c = some (b, N)) (ch' : Chunk) (o : Obj) :
    St F r m w F r (m.set c ch') (putB w b o) where
  size := by simp
  msize := by simp
  keep b' hb ho := putB_other fun e => ho (e ▸ ⟨c, ch, N, hc, hr⟩)
  own b' hb := by
    rintro ⟨c1, ch1, N1, h1, e1⟩
    rcases Mem.get_set hc h1 with ⟨rfl, _⟩ | ⟨_, hg⟩
    · exact ⟨_, _, _, hc, e1⟩
    · exact ⟨_, _, _, hg, e1⟩
  frz b hb h h' := absurd h h'
  leF := Frz.le_refl _
  ler c _ := rfl
  dirt c' hc' hd := Mem.dirt_set hc' hd hc
  dead c' hc' hd := Mem.dead_set hd hc
  io := ⟨rfl, rfl⟩

/-- An abstract block is given up: nothing turns. -/
theorem Sim.kill {K F r m w c ch} (s : Sim K F r m w) (hc : m.get c = some ch) : Sim K F r (m.set c .dead) w := by
  refine ⟨fun c' x hx => by simpa using s.dom c' x hx, fun c' ch1 h1 => ?_, fun c1 c2 ch1 ch2 b' N1 N2 h1 h2 e1 e2 => ?_, s.frz⟩
  · rcases Mem.get_set hc h1 with ⟨_, _, h⟩ | ⟨hne, hg⟩
    · exact absurd rfl h
    · exact s.obj _ _ hg
  · rcases Mem.get_set hc h1 with ⟨_, _, h⟩ | ⟨_, g1⟩
    · exact absurd rfl h
    · rcases Mem.get_set hc h2 with ⟨_, _, h⟩ | ⟨_, g2⟩
      · exact absurd rfl h
      · exact s.inj _ _ _ _ _ _ _ g1 g2 e1 e2
theorem Sim.st_kill {K F r m w c ch} (_s : Sim K F r m w) (hc : m.get c = some ch) : St F r m w F r (m.set c .dead) w where
  size := Nat.le_refl _
  msize := by simp
  keep _ _ _ := rfl
  own b' hb := by
    rintro ⟨c1, ch1, N1, h1, e1⟩
    rcases Mem.get_set hc h1 with ⟨rfl, _⟩ | ⟨_, hg⟩
    · exact ⟨_, _, _, hc, e1⟩
    · exact ⟨_, _, _, hg, e1⟩
  frz b hb h h' := absurd h h'
  leF := Frz.le_refl _
  ler c _ := rfl
  dirt c' hc' hd := Mem.dirt_set hc' hd hc
  dead c' hc' hd := Mem.dead_set hd hc
  io := ⟨rfl, rfl⟩


/-- A block is given up, and another abstract block laid over the same one of the heap. -/
theorem Sim.move {K F r m w c ch ch' b N o} (s : Sim K F r m w) (hc : m.get c = some ch) (hr : r c = some (b, N))
    (ho : ObjR K F (r.put m.size (b, N)) N ch' o) : Sim K F (r.put m.size (b, N)) ((m.set c .dead).push ch') (putB w b o) := by
  have hlt := s.block_lt hc hr
  have hFb : F b = none := by
    obtain ⟨b1, N', o', g1, g2, g3, g4⟩ := s.obj _ _ hc
    rw [hr] at g1; cases g1; exact g4
  have cases' : ∀ c1 ch1, ((m.set c .dead).push ch').get c1 = some ch1 → (c1 ≠ c ∧ c1 < m.size ∧ m.get c1 = some ch1) ∨ (c1 = m.size ∧ ch1 = ch') := by
    intro c1 ch1 h
    rcases Mem.get_push h with ⟨hl, hg⟩ | ⟨h1, h2⟩
    · rcases Mem.get_set hc hg with ⟨_, _, h⟩ | ⟨h1, h2⟩
      · exact absurd rfl h
      · exact .inl ⟨h1, by simpa using hl, h2⟩
    · exact .inr ⟨by simpa using h1, h2⟩
  refine ⟨fun c' x hx => ?_, fun c1 ch1 h1 => ?_, fun c1 c2 ch1 ch2 b' N1 N2 h1 h2 e1 e2 => ?_, fun b' C hb => ?_⟩
  · by_cases h : c' = m.size
    · subst h; simp
    · rw [Loc.put_other h] at hx; have := s.dom c' x hx; simp; omega
  · rcases cases' _ _ h1 with ⟨hne, hl, hg⟩ | ⟨rfl, rfl⟩
    · obtain ⟨b', N', o', g1, g2, g3, g4⟩ := s.obj _ _ hg
      refine ⟨b', N', o', by rw [Loc.put_other (by omega)]; exact g1, ?_, g3.mono (Frz.le_refl _) (s.le_put _), g4⟩
      rw [putB_other]; exact g2
      intro e; subst e
      exact hne (s.inj _ _ _ _ _ _ _ hg hc g1 hr)
    · exact ⟨b, N, o, Loc.put_same .., putB_same hlt, ho, hFb⟩
  · rcases cases' _ _ h1 with ⟨n1, l1, g1⟩ | ⟨rfl, rfl⟩ <;> rcases cases' _ _ h2 with ⟨n2, l2, g2⟩ | ⟨rfl, rfl⟩
    · rw [Loc.put_other (by omega)] at e1 e2
      exact s.inj _ _ _ _ _ _ _ g1 g2 e1 e2
    · rw [Loc.put_other (by omega)] at e1
      rw [Loc.put_same] at e2
      cases e2
      exact absurd (s.inj _ _ _ _ _ _ _ g1 hc e1 hr) n1
    · rw [Loc.put_other (by omega)] at e2
      rw [Loc.put_same] at e1
      cases e1
      exact absurd (s.inj _ _ _ _ _ _ _ g2 hc e2 hr) n2
    · rfl
  · obtain ⟨e, fr, h⟩ := s.frz b' C hb
    refine ⟨e, fr, ?_⟩
    rw [putB_other]; exact h
    intro e; subst e
    rw [hFb] at hb; cases hb

theorem Sim.st_move {K F r m w c ch b N} (_s : Sim K F r m w) (hc : m.get c = some ch) (hr : r c = some (b, N)) (ch' : Chunk) (o : Obj) :
    St F r m w F (r.put m.size (b, N)) ((m.set c .dead).push ch') (putB w b o) where
  size := by simp
  msize := by simp
  keep b' hb ho := putB_other fun e => ho (e ▸ ⟨c, ch, N, hc, hr⟩)
  own b' hb := by
    rintro ⟨c1, ch1, N1, h1, e1⟩
    rcases Mem.get_push h1 with ⟨hl, hg⟩ | ⟨h1, h2⟩
    · rcases Mem.get_set hc hg with ⟨_, _, h⟩ | ⟨h1, h2⟩
      · exact absurd rfl h
      · rw [Loc.put_other (by simp at hl; omega)] at e1
        exact ⟨_, _, _, h2, e1⟩
    · simp only [Mem.size_set] at h1
      subst h1
      rw [Loc.put_same] at e1; cases e1
      exact ⟨_, _, _, hc, hr⟩
  frz b hb h h' := absurd h h'
  leF := Frz.le_refl _
  ler c hc := by rw [Loc.put_other (by omega)]
  dirt c' hc' hd := by
    obtain ⟨h1, h2⟩ := Mem.dirt_set (x := .dead) hc' hd hc
    exact ⟨h1, by rw [Mem.get_push_old (by simpa using hc'), h2]⟩
  dead c' hc' hd := by rw [Mem.get_push_old (by simpa using hc')]; exact Mem.dead_set hd hc
  io := ⟨rfl, rfl⟩

end Go.Proofs.YtjjgiigbhjfkaaaGreatDoor.Am

namespace Go.Proofs.YtjjgiigbhjfkaaaGreatDoor.Am
open Go

def undefV : V := .tup []
def X.ev (a : List V) : X → V
  | .t i => a.getD i undefV
  | .c v => v
def V.cells : V → List V
  | .agg cs => cs
  | v => [v]
def V.isCell : V → Bool
  | .agg _ => false
  | .tup _ => false
  | _ => true

/-- cs, with xs written over it from off on. -/
def splice (cs : List V) (off : Nat) (xs : List V) : List V := cs.take off ++ xs ++ cs.drop (off + xs.length)
def fillV : List V → List (Nat × Nat × V) → Option (List V)
  | zs, [] => some zs
  | zs, (off, size, v) :: rest =>
    if v.cells.length = size ∧ off + size ≤ zs.length then fillV (splice zs off v.cells) rest else none

def rd (agg : Bool) (size : Nat) (cs : List V) (off : Nat) : Option V :=
  if agg then (if off + size ≤ cs.length then some (.agg ((cs.drop off).take size)) else none) else cs[off]?
def loadV (m : Mem) (agg : Bool) (size : Nat) : V → Option V
  | .ptr c off => match m.get c with
    | some (.cells _ cs _) => rd agg size cs off
    | _ => none
  | .fp cs off => rd agg size cs off
  | _ => none
def storeV (m : Mem) (size : Nat) (a x : V) : Option Mem :=
  match a with
  | .ptr c off => match m.get c with
    | some (.cells e cs false) =>
      if x.cells.length = size ∧ off + size ≤ cs.length ∧ x.cells.all V.isCell = true then some (m.set c (.cells e (splice cs off x.cells) false)) else none
    | _ => none
  | _ => none

def ltS : List Nat → List Nat → Bool
  | _, [] => false
  | [], _ :: _ => true
  | a :: x, b :: y => decide (a < b) || (decide (a = b) && ltS x y)
def intOp (op : BinOp) (k : IntKind) (a b : Int) : Option V :=
  match op with
  | .add => some (.int k (k.wrap (a + b)))
  | .sub => some (.int k (k.wrap (a - b)))
  | .mul => some (.int k (k.wrap (a * b)))
  | .quo => if b = 0 then none else some (.int k (k.wrap (a.tdiv b)))
  | .rem => if b = 0 then none else some (.int k (a.tmod b))
  | .and => some (.int k (k.wrap (BitVec.ofInt k.bits a &&& BitVec.ofInt k.bits b).toNat))
  | .or => some (.int k (k.wrap (BitVec.ofInt k.bits a ||| BitVec.ofInt k.bits b).toNat))
  | .xor => some (.int k (k.wrap (BitVec.ofInt k.bits a ^^^ BitVec.ofInt k.bits b).toNat))
  | .andNot => some (.int k (k.wrap (BitVec.ofInt k.bits a &&& ~~~ BitVec.ofInt k.bits b).toNat))
  | .eql => some (.bool (decide (a = b)))
  | .neq => some (.bool (!decide (a = b)))
  | .lss => some (.bool (decide (a < b)))
  | .leq => some (.bool (decide (a ≤ b)))
  | .gtr => some (.bool (decide (a > b)))
  | .geq => some (.bool (decide (a ≥ b)))
  | _ => none
def shiftOp (op : BinOp) (k : IntKind) (a b : Int) : Option V :=
  if b < 0 then none else
  match op with
  | .shl => some (.int k (k.wrap (a * 2 ^ (min b.toNat k.bits))))
  | .shr => some (.int k (a.fdiv (2 ^ (min b.toNat k.bits))))
  | _ => none
def strOp (op : BinOp) (x y : List Nat) : Option V :=
  match op with
  | .add => if ((x.length + y.length : Nat) : Int) > IntKind.i64.max then none else some (.str (x ++ y))
  | .eql => some (.bool (decide (x = y)))
  | .neq => some (.bool (!decide (x = y)))
  | .lss => some (.bool (ltS x y))
  | .leq => some (.bool (ltS x y || decide (x = y)))
  | .gtr => some (.bool (!(ltS x y || decide (x = y))))
  | .geq => some (.bool (!ltS x y))
  | _ => none
def isShift : BinOp → Bool
  | .shl | .shr => true
  | _ => false
def binV (op : BinOp) : V → V → Option V
  | .int k a, .int k' b => if isShift op then shiftOp op k a b else if k = k' then intOp op k a b else none
  | .str x, .str y => strOp op x y
  | _, _ => none

def partV (agg : Bool) (off size : Nat) (cs : List V) : Option V := rd agg size cs off
mutual
def eqV : EqD → V → V → Option Bool
  | .int, .int k a, .int k' b => if k = k' then some (decide (a = b)) else none
  | .bool, .bool a, .bool b => some (a == b)
  | .str, .str a, .str b => some (decide (a = b))
  | .ptr, .nilp, .nilp => some true
  | .ptr, .nilp, .ptr .. | .ptr, .nilp, .fp .. | .ptr, .ptr .., .nilp | .ptr, .fp .., .nilp => some false
  | .sl, .nils, .nils => some true
  | .sl, .nils, .sl .. | .sl, .nils, .lst .. | .sl, .sl .., .nils | .sl, .lst .., .nils => some false
  | .map, .nilm, .nilm => some true
  | .map, .nilm, .mp _ | .map, .mp _, .nilm => some false
  | .func, .nilf, .nilf => some true
  | .func, .nilf, .fn .. | .func, .nilf, .yield _ | .func, .fn .., .nilf | .func, .yield _, .nilf => some false
  | .iface, .nili, .nili => some true
  | .iface, .nili, .iface .. | .iface, .iface .., .nili => some false
  | .struct fs, .agg xs, .agg ys => eqsV fs xs ys
  | _, _, _ => none
def eqsV : List (Nat × Nat × Bool × EqD) → List V → List V → Option Bool
  | [], _, _ => some true
  | (off, size, agg, d) :: fs, xs, ys =>
    match rd agg size xs off, rd agg size ys off with
    | some x, some y => match eqV d x y with
      | some true => eqsV fs xs ys
      | some false => some false
      | none => none
    | _, _ => none
end

def unV (op : UnOp) : V → Option V
  | .int k n => match op with
    | .neg => some (.int k (k.wrap (0 - n)))
    | .xor => some (.int k (k.wrap (BitVec.ofInt k.bits (if k.signed then -1 else k.max) ^^^ BitVec.ofInt k.bits n).toNat))
    | _ => none
  | .bool b => match op with
    | .not => some (.bool !b)
    | _ => none
  | _ => none

def natB (n : Nat) : V := .int .u8 n
def toBA (s : List Nat) : ByteArray := ⟨(s.map UInt8.ofNat).toArray⟩
def byteOf : V → Option Nat
  | .int .u8 n => if 0 ≤ n ∧ n < 256 then some n.toNat else none
  | _ => none
def bytesOf : List V → Option (List Nat)
  | [] => some []
  | v :: vs => match byteOf v, bytesOf vs with
    | some b, some bs => some (b :: bs)
    | _, _ => none

def asN : V → Option Int
  | .int _ n => some n
  | _ => none
/-- A bound of a slice expression: between 0 and y. -/
def bnd (y : Nat) : V → Option Nat
  | .int _ n => if 0 ≤ n ∧ n ≤ y then some n.toNat else none
  | _ => none
def hib (len : Nat) : Option V → Option Nat
  | some v => bnd len v
  | none => some len
def lob (h : Nat) : Option V → Option Nat
  | some v => bnd h v
  | none => some 0
/-- low, high of x[lo:hi] where the length is len and no more is asked. -/
def bnds (len : Nat) (lo hi : Option V) : Option (Nat × Nat) :=
  match hib len hi with
  | none => none
  | some h => match lob h lo with
    | none => none
    | some l => some (l, h)
def sliceV (k : SlK) (esz : Nat) (x : V) (lo hi mx : Option V) : Option V :=
  match k, x with
  | .str, .str s => match mx, bnds s.length lo hi with
    | none, some (l, h) => some (.str ((s.drop l).take (h - l)))
    | _, _ => none
  | .sl, .nils => match bnds 0 lo hi, mx with
    | some _, none => some .nils
    | some _, some v => match bnd 0 v with
      | some _ => match hi with | some _ => some .nils | none => none
      | none => none
    | none, _ => none
  | .sl, .sl c off len esz' cap => if esz' = esz then
      match mx with
      | none => match bnds len lo hi with
        | some (l, h) => some (.sl c (off + l * esz) (h - l) esz (cap.map (· - l)))
        | none => none
      | some v => match bnd len v, hi with
        | some mm, some _ => match bnds mm lo hi with
          | some (l, h) => some (.sl c (off + l * esz) (h - l) esz (some (mm - l)))
          | none => none
        | _, _ => none
      else none
  | .sl, .lst cs len _ => if cs.length = len * esz then
      match mx with
      | none => match bnds len lo hi with
        | some (l, h) => some (.lst ((cs.drop (l * esz)).take ((h - l) * esz)) (h - l) false)
        | none => none
      | some v => match bnd len v, hi with
        | some mm, some _ => match bnds mm lo hi with
          | some (l, h) => some (.lst ((cs.drop (l * esz)).take ((h - l) * esz)) (h - l) (decide (h = mm)))
          | none => none
        | _, _ => none
      else none
  | .arr n, .ptr c off => match mx, bnds n lo hi with
    | none, some (l, h) => some (.sl c (off + l * esz) (h - l) esz (some (n - l)))
    | _, _ => none
  | _, _ => none

/-- A slice of an array asks that the array lie whole in its block. -/
def slOk (m : Mem) (k : SlK) (esz : Nat) (x : V) : Bool :=
  match k, x with
  | .arr n, .ptr c off => match m.get c with
    | some (.cells _ cs _) => decide (off + n * esz ≤ cs.length)
    | _ => false
  | _, _ => true
def addrIx (arr : Option Nat) (esz : Nat) (x i : V) : Option V :=
  match asN i with
  | none => none
  | some n => match arr, x with
    | none, .sl c off len esz' _ => if esz' = esz ∧ 0 ≤ n ∧ n < len then some (.ptr c (off + n.toNat * esz)) else none
    | none, .lst cs len _ => if cs.length = len * esz ∧ 0 ≤ n ∧ n < len then some (.fp cs (n.toNat * esz)) else none
    | some len, .ptr c off => if 0 ≤ n ∧ n < len then some (.ptr c (off + n.toNat * esz)) else none
    | some len, .fp cs off => if 0 ≤ n ∧ n < len then some (.fp cs (off + n.toNat * esz)) else none
    | _, _ => none

def findV (kd : EqD) (k : V) : List (V × V × Nat) → Nat → Option (Option (Nat × V))
  | [], _ => some none
  | e :: es, i => match eqV kd k e.1 with
    | some true => some (some (i, e.2.1))
    | some false => findV kd k es (i + 1)
    | none => none
/-- The entry of a key, if the key has the shape of its type. -/
def findK (kd : EqD) (k : V) (es : List (V × V × Nat)) : Option (Option (Nat × V)) :=
  match eqV kd k k with
  | some true => findV kd k es 0
  | _ => none
def mapOf (m : Mem) : V → Option (List (V × V × Nat))
  | .nilm => some []
  | .mp c => match m.get c with
    | some (.map es _) => some es
    | _ => none
  | _ => none

/-- The cells of n elements of a slice (or a string's bytes), and how many elements. -/
def srcCells (m : Mem) (esz : Nat) : V → Option (Nat × List V)
  | .nils => some (0, [])
  | .str s => if esz = 1 then some (s.length, s.map natB) else none
  | .sl c off len esz' _ => match m.get c with
    | some (.cells _ cs _) => if esz' = esz ∧ off + len * esz ≤ cs.length then some (len, (cs.drop off).take (len * esz)) else none
    | _ => none
  | .lst cs len _ => if cs.length = len * esz then some (len, cs) else none
  | _ => none

def roomOk (bytes need : Nat) : Bool := decide (need * bytes ≤ 140737488355328) && decide (need < 2 ^ 60)
def appV (m : Mem) (e esz bytes : Nat) (s x : V) : Option (V × Mem) :=
  match srcCells m esz x with
  | none => none
  | some (n, new) =>
    if n = 0 then (match s with | .nils | .sl .. | .lst .. => some (s, m) | _ => none)
    else if new.all V.isCell = false then none else
    match s with
    | .nils => if roomOk bytes n then some (.sl m.size 0 n esz none, m.push (.cells e new false)) else none
    | .lst cs len true => if cs.length = len * esz ∧ roomOk bytes (len + n) = true then some (.sl m.size 0 (len + n) esz none, m.push (.cells e (cs ++ new) false)) else none
    | .sl c off len esz' cap => match m.get c with
      | some (.cells e' cs ro) =>
        if off = 0 ∧ esz' = esz ∧ len * esz ≤ cs.length ∧ roomOk bytes (len + n) = true ∧ e' = e then
          match cap with
          | some k =>
            if len + n ≤ k then
              if ro then none else some (.sl c 0 (len + n) esz cap, m.set c (.cells e (splice cs (len * esz) new) false))
            else some (.sl m.size 0 (len + n) esz none, m.push (.cells e (cs.take (len * esz) ++ new) false))
          | none =>
            if ro = true ∧ len * esz < cs.length then none else
            some (.sl m.size 0 (len + n) esz none, (m.set c .dead).push (.cells e (cs.take (len * esz) ++ new) ro))
        else none
      | _ => none
    | _ => none

def copyV (m : Mem) (esz : Nat) (d s : V) : Option (V × Mem) :=
  match srcCells m esz s with
  | none => none
  | some (n, new) => match d with
    | .nils => some (.int .i64 0, m)
    | .sl c off len esz' _ => match m.get c with
      | some (.cells e cs false) =>
        if esz' = esz ∧ off + len * esz ≤ cs.length ∧ new.all V.isCell = true then
          let k := min n len
          some (.int .i64 k, m.set c (.cells e (splice cs off (new.take (k * esz))) false))
        else none
      | _ => none
    | _ => none

def lenV (m : Mem) (k : LenK) (x : V) : Option V :=
  match k, x with
  | .const n, _ => some (.int .i64 n)
  | .str, .str s => some (.int .i64 s.length)
  | .sl, .nils => some (.int .i64 0)
  | .sl, .sl _ _ len _ _ => some (.int .i64 len)
  | .sl, .lst _ len _ => some (.int .i64 len)
  | .map, .nilm => some (.int .i64 0)
  | .map, .mp c => match m.get c with
    | some (.map es _) => some (.int .i64 es.length)
    | _ => none
  | _, _ => none

def partsV (a : List V) : List (Nat × Nat × X) → List (Nat × Nat × V)
  | [] => []
  | (o, s, x) :: r => (o, s, x.ev a) :: partsV a r

/-- What an operation answers (calls and panics apart), and the memory behind it. -/
def IOp.run (o : IOp) (a : List V) (m : Mem) : Option (V × Mem) :=
  match o with
  | .mov x => some (x.ev a, m)
  | .pick c x y => match c.ev a with
    | .bool b => some (if b then x.ev a else y.ev a, m)
    | _ => none
  | .alloc e zs => some (.ptr m.size 0, m.push (.cells e zs false))
  | .box e size x => if (x.ev a).cells.length = size then some (.ptr m.size 0, m.push (.cells e (x.ev a).cells false)) else none
  | .build zs ps => match fillV zs (partsV a ps) with
    | some cs => some (.agg cs, m)
    | none => none
  | .buildS e esz ln zs ps => match fillV zs (partsV a ps) with
    | some cs => some (.sl m.size 0 ln esz (some ln), m.push (.cells e cs false))
    | none => none
  | .load agg size x => (loadV m agg size (x.ev a)).map (·, m)
  | .store size x y => (storeV m size (x.ev a) (y.ev a)).map (undefV, ·)
  | .nilck x => match x.ev a with
    | .nilp | .nili | .nilf => none
    | v => some (v, m)
  | .bin op x y => (binV op (x.ev a) (y.ev a)).map (·, m)
  | .eqd neg d x y => (eqV d (x.ev a) (y.ev a)).map fun b => (.bool (if neg then !b else b), m)
  | .un op x => (unV op (x.ev a)).map (·, m)
  | .conv k x => (asN (x.ev a)).map fun n => (.int k (k.wrap n), m)
  | .same x => match x.ev a with
    | .str s => some (.str s, m)
    | _ => none
  | .s2b e x => match x.ev a with
    | .str s => if s.length < 2 ^ 60 then some (.sl m.size 0 s.length 1 none, m.push (.cells e (s.map natB) false)) else none
    | _ => none
  | .b2s x => match srcCells m 1 (x.ev a) with
    | some (_, cs) => match x.ev a with
      | .str _ => none
      | _ => (bytesOf cs).map fun s => (.str s, m)
    | none => none
  | .mkif t x => some (.iface t (x.ev a), m)
  | .mkfn f caps => some (.fn f (caps.map (X.ev a)), m)
  | .mkmap => some (.mp m.size, m.push (.map [] 0))
  | .mksl e esz bytes zs l c => match asN (l.ev a), asN (c.ev a) with
    | some l, some c => if 0 ≤ l ∧ l ≤ c ∧ bytes * c ≤ 2 ^ 48 ∧ c < 2 ^ 60 then
        some (.sl m.size 0 l.toNat esz (some c.toNat), m.push (.cells e (List.replicate c.toNat zs).flatten false)) else none
    | _, _ => none
  | .slice k esz x lo hi mx' => if slOk m k esz (x.ev a) = false then none else (sliceV k esz (x.ev a) (lo.map (X.ev a)) (hi.map (X.ev a)) (mx'.map (X.ev a))).map (·, m)
  | .faddr off x => match x.ev a with
    | .ptr c o => some (.ptr c (o + off), m)
    | .fp cs o => some (.fp cs (o + off), m)
    | _ => none
  | .fld agg off size x => match x.ev a with
    | .agg cs => (rd agg size cs off).map (·, m)
    | _ => none
  | .iadr arr esz x i => (addrIx arr esz (x.ev a) (i.ev a)).map (·, m)
  | .idxs x i => match x.ev a, asN (i.ev a) with
    | .str s, some n => if 0 ≤ n then (s[n.toNat]?).map fun b => (natB b, m) else none
    | _, _ => none
  | .idxa agg ln esz x i => match x.ev a, asN (i.ev a) with
    | .agg cs, some n => if 0 ≤ n ∧ n < ln then (rd agg esz cs (n.toNat * esz)).map (·, m) else none
    | _, _ => none
  | .look kd zero ok x k => match mapOf m (x.ev a) with
    | some es => match findK kd (k.ev a) es with
      | some (some (_, v)) => some (if ok then .tup [v, .bool true] else v, m)
      | some none => some (if ok then .tup [zero, .bool false] else zero, m)
      | none => none
    | none => none
  | .mupd kd x k v => match x.ev a with
    | .mp c => match m.get c with
      | some (.map es clock) => match findK kd (k.ev a) es with
        | some (some (i, _)) => match es[i]? with
          | some (k', _, born) => if V.eq k' (k.ev a) then some (undefV, m.set c (.map (es.set i (k', v.ev a, born)) clock)) else none
          | none => none
        | some none => some (undefV, m.set c (.map (es ++ [(k.ev a, v.ev a, clock)]) (clock + 1)))
        | none => none
      | _ => none
    | _ => none
  | .mdel kd x k => match x.ev a with
    | .mp c => match m.get c with
      | some (.map es clock) => match findK kd (k.ev a) es with
        | some (some (i, _)) => some (undefV, m.set c (.map (es.eraseIdx i) clock))
        | some none => some (undefV, m.set c (.map es clock))
        | none => none
      | _ => none
    | .nilm => (match findK kd (k.ev a) [] with | some _ => some (undefV, m) | none => none)
    | _ => none
  | .ment kd zero x k => match x.ev a with
    | .mp c => match m.get c with
      | some (.map es clock) => match findK kd (k.ev a) es with
        | some (some (i, v)) => match es[i]? with
          | some (k', _, born) => if V.eq k' (k.ev a) then some (.tup [v, .int .i64 born], m) else none
          | none => none
        | some none => some (.tup [zero, .int .i64 clock], m.set c (.map (es ++ [(k.ev a, zero, clock)]) (clock + 1)))
        | none => none
      | _ => none
    | _ => none
  | .mest x s v => match x.ev a, asN (s.ev a) with
    | .mp c, some n => match m.get c with
      | some (.map es clock) => match es.findIdx? (fun e => decide ((e.2.2 : Int) = n)) with
        | some i => match es[i]? with
          | some (k', _, born) => some (undefV, m.set c (.map (es.set i (k', v.ev a, born)) clock))
          | none => none
        | none => none
      | _ => none
    | _, _ => none
  | .len k x => (lenV m k (x.ev a)).map (·, m)
  | .app e esz bytes s x => appV m e esz bytes (s.ev a) (x.ev a)
  | .copy esz d s => copyV m esz (d.ev a) (s.ev a)
  | .mn x y => match x.ev a, y.ev a with
    | .int k x, .int _ y => some (.int k (if y < x then y else x), m)
    | _, _ => none
  | .mx x y => match x.ev a, y.ev a with
    | .int k x, .int _ y => some (.int k (if y > x then y else x), m)
    | _, _ => none
  | .rngs x => match x.ev a with
    | .str s => some (.ptr m.size 0, m.push (.siter s 0))
    | _ => none
  | .rngm x => match x.ev a with
    | .nilm => some (.ptr m.size 0, m.push (.miter none))
    | .mp c => match m.get c with
      | some (.map _ _) => some (.ptr m.size 0, m.push (.miter (some c)))
      | _ => none
    | _ => none
  | .nextm x => match x.ev a with
    | .ptr i 0 => match m.get i with
      | some (.miter none) => some (.tup [.bool false], m)
      | some (.miter (some c)) => match m.get c with
        | some (.map [] _) => some (.tup [.bool false], m)
        | _ => none
      | _ => none
    | _ => none
  | .nexts x => match x.ev a with
    | .ptr c 0 => match m.get c with
      | some (.siter s pos) =>
        if pos < s.length then
          let d := Utf8.decode (toBA s) pos
          some (.tup [.bool true, .int .i64 pos, .int .i32 d.1], m.set c (.siter s (pos + d.2)))
        else some (.tup [.bool false], m)
      | _ => none
    | _ => none
  | .extr i x => match x.ev a with
    | .tup vs => (vs[i]?).map (·, m)
    | _ => none
  | .call .. | .panic _ => none

end Go.Proofs.YtjjgiigbhjfkaaaGreatDoor.Am

namespace Go.Proofs.YtjjgiigbhjfkaaaGreatDoor.Am
open Go

mutual
def toV : Value → Option V
  | .bool b => some (.bool b)
  | .int k n => some (.int k n)
  | .string s => some (.str (s.data.toList.map UInt8.toNat))
  | .pointer none => some .nilp
  | .slice none 0 0 => some .nils
  | .map none => some .nilm
  | .nilFunc => some .nilf
  | .nilIface => some .nili
  | .agg cs => match toVs cs.toList with
    | some vs => some (.agg vs)
    | none => none
  | .tuple cs => match toVs cs.toList with
    | some vs => some (.tup vs)
    | none => none
  | .iface t v => match toV v with
    | some v => some (.iface t v)
    | none => none
  | _ => none
def toVs : List Value → Option (List V)
  | [] => some []
  | u :: us => match toV u, toVs us with
    | some v, some vs => some (v :: vs)
    | _, _ => none
end

abbrev Glob := Nat → Option (List V)
def cX (G : Glob) : Operand → Option X
  | .tmp t => some (.t t)
  | .const v => (toV v).map .c
  | .global g => (G g).map fun cs => .c (.fp cs 0)
  | .func f => some (.c (.fn f []))

def cXs (G : Glob) : List Operand → Option (List X)
  | [] => some []
  | x :: xs => match cX G x, cXs G xs with
    | some y, some ys => some (y :: ys)
    | _, _ => none
def cXo (G : Glob) : Option Operand → Option (Option X)
  | none => some none
  | some x => (cX G x).map some

def sizeT (P : Program) (t : TypeId) : Option Nat := (P.info? t).map (·.size)
def bytesT (P : Program) (t : TypeId) : Option Nat := (P.info? t).map (·.bytes)
def zeroT (P : Program) (t : TypeId) : Option V := match P.info? t with
  | some i => match i.zero with
    | some z => toV z
    | none => none
  | none => none
/-- The cells of a type's zero value, as many as its size says. -/
def zerosT (P : Program) (t : TypeId) : Option (List V) := match zeroT P t, sizeT P t with
  | some z, some n => if z.cells.length = n then some z.cells else none
  | _, _ => none
def aggT (P : Program) (t : TypeId) : Option Bool := match P.underlying t with
  | some (.struct _) | some (.array ..) => some true
  | some _ => some false
  | none => none

mutual
def eqDesc (P : Program) (nil : Bool) : Nat → TypeId → Option EqD
  | 0, _ => none
  | n + 1, t => match P.underlying t with
    | some .bool => some .bool
    | some (.int _) => some .int
    | some .string => some .str
    | some (.pointer _) => if nil then some .ptr else none
    | some (.slice _) => if nil then some .sl else none
    | some (.map ..) => if nil then some .map else none
    | some (.func ..) => if nil then some .func else none
    | some (.interface _) => if nil then some .iface else none
    | some (.struct fs) => if P.stoodInHeld t then none else (eqDescs P nil n fs.toList).map .struct
    | _ => none
def eqDescs (P : Program) (nil : Bool) : Nat → List Field → Option (List (Nat × Nat × Bool × EqD))
  | _, [] => some []
  | 0, _ => none
  | n + 1, f :: fs => if f.name = "_" then none else
    match sizeT P f.type, aggT P f.type, eqDesc P nil n f.type, eqDescs P nil n fs with
    | some s, some a, some d, some ds => some ((f.offset, s, a, d) :: ds)
    | _, _, _, _ => none
end

def fplT (P : Program) (fs : Array Field) (i : Nat) : Option (Nat × Nat) := (fs[i]?).bind fun f => (sizeT P f.type).map fun s => (f.offset, s)
/-- Places of a struct's fields, of an array's elements: offset, size. -/
def placesT (P : Program) (t : TypeId) : Option (Nat → Option (Nat × Nat)) := match P.underlying t with
  | some (.struct fs) => if fs.toList.all (fun f => (sizeT P f.type).isSome) then some (fplT P fs) else none
  | some (.array _ e) => match sizeT P e with
    | some s => some fun i => some (i * s, s)
    | none => none
  | _ => none
def cParts (G : Glob) (pl : Nat → Option (Nat × Nat)) : List (Nat × Operand) → Option (List (Nat × Nat × X))
  | [] => some []
  | (i, x) :: r => match pl i, cX G x, cParts G pl r with
    | some (o, s), some y, some ys => some ((o, s, y) :: ys)
    | _, _, _ => none

def isK : Operand → Bool
  | .const _ => true
  | _ => false

def cBin (P : Program) (G : Glob) (op : BinOp) (t : TypeId) (x y : Operand) : Option IOp :=
  match cX G x, cX G y with
  | some x', some y' => match P.underlying t with
    | some (.int _) | some .string => some (.bin op x' y')
    | some (.interface _) => if isK x || isK y then (match op with
      | .eql => some (.eqd false .iface x' y')
      | .neq => some (.eqd true .iface x' y')
      | _ => none) else none
    | some (.struct _) => if P.eqGuardType P.depth t then none else match op, eqDesc P false 50 t with
      | .eql, some d => some (.eqd false d x' y')
      | .neq, some d => some (.eqd true d x' y')
      | _, _ => none
    | some _ => match op, eqDesc P true 50 t with
      | .eql, some d => some (.eqd false d x' y')
      | .neq, some d => some (.eqd true d x' y')
      | _, _ => none
    | none => none
  | _, _ => none

def cConv (P : Program) (G : Glob) (s d : TypeId) (x : Operand) : Option IOp :=
  match cX G x with
  | none => none
  | some x => match P.underlying s, P.underlying d with
    | some (.int _), some (.int k) => some (.conv k x)
    | some .string, some .string => some (.same x)
    | some .string, some (.slice e) => match P.underlying e, sizeT P e with
      | some (.int .u8), some 1 => some (.s2b e x)
      | _, _ => none
    | some (.slice e), some .string => match P.underlying e with
      | some (.int .u8) => some (.b2s x)
      | _ => none
    | _, _ => none

def cBuiltin (P : Program) (G : Glob) (b : Builtin) (ts : Array TypeId) (args : List Operand) : Option IOp :=
  match b, cXs G args with
  | .len, some [x] => match ts[0]? with
    | some t => match P.underlying t with
      | some .string => some (.len .str x)
      | some (.slice _) => some (.len .sl x)
      | some (.map ..) => some (.len .map x)
      | some (.array n _) => some (.len (.const n) x)
      | some (.pointer a) => match P.underlying a with
        | some (.array n _) => some (.len (.const n) x)
        | _ => none
      | _ => none
    | none => none
  | .append, some [s, x] => match ts[0]?, ts[1]? with
    | some t, some u => match P.underlying t, P.underlying u with
      | some (.slice e), some (.slice _) | some (.slice e), some .string => match sizeT P e, bytesT P e, zerosT P e with
        | some n, some b, some _ => if n = 0 || b = 0 then none else some (.app e n b s x)
        | _, _, _ => none
      | _, _ => none
    | _, _ => none
  | .copy, some [d, s] => match ts[0]? with
    | some t => match P.underlying t with
      | some (.slice e) => (sizeT P e).map fun n => .copy n d s
      | _ => none
    | none => none
  | .delete, some [m, k] => match ts[0]? with
    | some t => match P.underlying t with
      | some (.map key _) => (eqDesc P false 50 key).map fun d => .mdel d m k
      | _ => none
    | none => none
  | .min, some [x, y] => some (.mn x y)
  | .max, some [x, y] => some (.mx x y)
  | _, _ => none

def cOp (P : Program) (G : Glob) (o : Oper) : Option IOp :=
  match o.op with
  | .move x | .assign x => (cX G x).map .mov
  | .pick c a b => match cX G c, cX G a, cX G b with
    | some c, some a, some b => some (.pick c a b)
    | _, _, _ => none
  | .alloc t => (zerosT P t).map (.alloc t)
  | .box t x => match sizeT P t, cX G x with
    | some s, some x => some (.box t s x)
    | _, _ => none
  | .build t ps => match zerosT P t, placesT P t with
    | some zs, some pl => (cParts G pl ps.toList).map (.build zs)
    | _, _ => none
  | .buildSlice t len ps => match P.underlying t with
    | some (.slice e) => match zerosT P e with
      | some zs => if len * zs.length ≤ 2 ^ 24 then (cParts G (fun i => some (i * zs.length, zs.length)) ps.toList).map (.buildS e zs.length len (List.replicate len zs).flatten) else none
      | none => none
    | _ => none
  | .load t x => match aggT P t, sizeT P t, cX G x with
    | some a, some s, some x => some (.load a s x)
    | _, _, _ => none
  | .store t x y => match sizeT P t, cX G x, cX G y with
    | some s, some x, some y => some (.store s x y)
    | _, _, _ => none
  | .nilCheck x => (cX G x).map .nilck
  | .binOp op t x y _ => cBin P G op t x y
  | .unOp op _ x => (cX G x).map (.un op)
  | .convert s d x => cConv P G s d x
  | .makeInterface t x => match P.underlying t with
    | some (.interface _) => none
    | some _ => (cX G x).map (.mkif t)
    | none => none
  | .makeFunc (.func f) first caps => if first.isEmpty then (cXs G caps.toList).map (.mkfn f) else none
  | .makeMap _ none => some .mkmap
  | .makeSlice t l c => match P.underlying t with
    | some (.slice e) => match zerosT P e, bytesT P e, cX G l, cX G c with
      | some zs, some b, some l, some c => some (.mksl e zs.length b zs l c)
      | _, _, _, _ => none
    | _ => none
  | .slice t x lo hi mx => match cX G x, cXo G lo, cXo G hi, cXo G mx with
    | some x, some lo, some hi, some mx => match P.underlying t with
      | some .string => some (.slice .str 0 x lo hi mx)
      | some (.slice e) => (sizeT P e).map fun s => .slice .sl s x lo hi mx
      | some (.array n e) => (sizeT P e).map fun s => .slice (.arr n) s x lo hi mx
      | _ => none
    | _, _, _, _ => none
  | .fieldAddr s x f => match P.underlying s, cX G x with
    | some (.struct fs), some x => match fs[f]? with
      | some fl => match sizeT P fl.type with
        | some n => if n = 0 then none else some (.faddr fl.offset x)
        | none => none
      | none => none
    | _, _ => none
  | .field s x f => match P.underlying s, cX G x with
    | some (.struct fs), some x => match fs[f]? with
      | some fl => match sizeT P fl.type, aggT P fl.type with
        | some n, some a => some (.fld a fl.offset n x)
        | _, _ => none
      | none => none
    | _, _ => none
  | .indexAddr t x i => match P.underlying t, cX G x, cX G i with
    | some (.slice e), some x, some i => (sizeT P e).map fun s => .iadr none s x i
    | some (.array n e), some x, some i => (sizeT P e).map fun s => .iadr (some n) s x i
    | _, _, _ => none
  | .index t x i => match P.underlying t, cX G x, cX G i with
    | some .string, some x, some i => some (.idxs x i)
    | some (.array n e), some x, some i => match aggT P e, sizeT P e with
      | some a, some s => some (.idxa a n s x i)
      | _, _ => none
    | _, _, _ => none
  | .lookup t x k ok => match P.underlying t, cX G x, cX G k with
    | some (.map key e), some x, some k => match eqDesc P false 50 key, zeroT P e with
      | some d, some z => some (.look d z ok x k)
      | _, _ => none
    | _, _, _ => none
  | .mapUpdate t m k v | .insert t m k v => match P.underlying t, cX G m, cX G k, cX G v with
    | some (.map key _), some m, some k, some v => (eqDesc P false 50 key).map fun d => .mupd d m k v
    | _, _, _, _ => none
  | .mapEntry t m k => match P.underlying t, cX G m, cX G k with
    | some (.map key e), some m, some k => match eqDesc P false 50 key, zeroT P e with
      | some d, some z => some (.ment d z m k)
      | _, _ => none
    | _, _, _ => none
  | .entryStore _ m s v => match cX G m, cX G s, cX G v with
    | some m, some s, some v => some (.mest m s v)
    | _, _, _ => none
  | .range t x => match P.underlying t, cX G x with
    | some .string, some x => some (.rngs x)
    | some (.map ..), some x => some (.rngm x)
    | _, _ => none
  | .next it str => if str then (cX G it).map .nexts else (cX G it).map .nextm
  | .extract x i => (cX G x).map (.extr i)
  | .call { callee := .builtin b, args, argTypes } => cBuiltin P G b argTypes args.toList
  | .call { callee := .value f, args, .. } => match cX G f, cXs G args.toList with
    | some f, some as => some (.call f as)
    | _, _ => none
  | .panic x => (cX G x).map .panic
  | _ => none

/-- The instructions of a region. -/
def cOpB (P : Program) (G : Glob) (o : Oper) : IOp := (cOp P G o).getD (.panic (.c .nilp))
def cIns (P : Program) (G : Glob) (ops : Array Oper) (o : Oper) : Option Ins :=
  match o.guard with
  | none => some { dst := o.dst, op := cOpB P G o, guard := none }
  | some (j, b) => match (ops[j]?).bind (·.dst) with
    | some d => some { dst := o.dst, op := cOpB P G o, guard := some (d, b) }
    | none => none
def cInss (P : Program) (G : Glob) (ops : Array Oper) : List Oper → Option (List Ins)
  | [] => some []
  | o :: os => match cIns P G ops o, cInss P G ops os with
    | some i, some is => some (i :: is)
    | _, _ => none

end Go.Proofs.YtjjgiigbhjfkaaaGreatDoor.Am

namespace Go.Proofs.YtjjgiigbhjfkaaaGreatDoor.Am
open Go

section
variable {K : CodeR} {F : Frz} {r : Loc} {m : Mem} {w : World} {P : Program} {G : Glob}

mutual
theorem toV_sound : ∀ (u : Value) (v : V), toV u = some v → VR F r v u
  | .bool b, v, h => by simp only [toV, Option.some.injEq] at h; subst h; exact .bool
  | .int k n, v, h => by simp only [toV, Option.some.injEq] at h; subst h; exact .int
  | .string s, v, h => by simp only [toV, Option.some.injEq] at h; subst h; exact .str rfl
  | .pointer none, v, h => by simp only [toV, Option.some.injEq] at h; subst h; exact .nilp
  | .pointer (some a), v, h => by simp [toV] at h
  | .slice (some a) n c, v, h => by simp [toV] at h
  | .slice none n c, v, h => by
    match n, c, h with
    | 0, 0, h => simp only [toV, Option.some.injEq] at h; subst h; exact .nils
    | n + 1, c, h => simp [toV] at h
    | 0, c + 1, h => simp [toV] at h
  | .map none, v, h => by simp only [toV, Option.some.injEq] at h; subst h; exact .nilm
  | .map (some a), v, h => by simp [toV] at h
  | .nilFunc, v, h => by simp only [toV, Option.some.injEq] at h; subst h; exact .nilf
  | .nilIface, v, h => by simp only [toV, Option.some.injEq] at h; subst h; exact .nili
  | .iface t u, v, h => by
    simp only [toV] at h
    split at h
    · rename_i v' hv; cases h; exact .iface (toV_sound u v' hv)
    · cases h
  | .agg ⟨us⟩, v, h => by
    simp only [toV] at h
    split at h
    · rename_i vs hv; cases h
      have := toVs_sound us vs hv
      exact .agg this.1 this.2
    · cases h
  | .tuple ⟨us⟩, v, h => by
    simp only [toV] at h
    split at h
    · rename_i vs hv; cases h
      have := toVs_sound us vs hv
      exact .tup this.1 this.2
    · cases h
  | .float .., v, h => by simp [toV] at h
  | .complex .., v, h => by simp [toV] at h
  | .chan .., v, h => by simp [toV] at h
  | .func .., v, h => by simp [toV] at h
theorem toVs_sound : ∀ (us : List Value) (vs : List V), toVs us = some vs → VRs F r vs ⟨us⟩
  | [], vs, h => by simp only [toVs, Option.some.injEq] at h; subst h; exact .nil
  | u :: us, vs, h => by
    simp only [toVs] at h
    split at h
    · rename_i v vs' hv hvs
      cases h
      have h1 : VR F r v u := toV_sound u v hv
      have h2 : VRs F r vs' ⟨us⟩ := toVs_sound us vs' hvs
      refine ⟨by simpa using h2.1, fun i a b => ?_⟩
      cases i with
      | zero => exact h1
      | succ i => exact h2.2 i (by simpa using a) (by simpa using b)
    · cases h
end

def GlobOK (F : Frz) (G : Glob) : Prop := ∀ g cs, G g = some cs → ∃ C, F g = some C ∧ cs.length ≤ C.size ∧ ∀ i (h1 : i < cs.length) (h2 : i < C.size), VR F nowhere cs[i] C[i]

theorem GlobOK.mono {F F' : Frz} (h : GlobOK F G) (hF : F.le F') : GlobOK F' G := fun g cs hg => by
  obtain ⟨C, h1, h2, h3⟩ := h g cs hg
  exact ⟨C, hF _ _ h1, h2, fun i a b => (h3 i a b).mono hF (Loc.le_refl _)⟩

theorem VRs.getD {a : List V} {us : Array Value} (h : VRs F r a us) (i : Nat) : VR F r (a.getD i undefV) (us.getD i undef) := by
  by_cases hi : i < a.length
  · rw [List.getD_eq_getElem?_getD, List.getElem?_eq_getElem hi, Array.getD_eq_getD_getElem?, Array.getElem?_eq_getElem (h.1 ▸ hi)]
    exact h.2 i hi (h.1 ▸ hi)
  · rw [List.getD_eq_getElem?_getD, List.getElem?_eq_none (by omega), Array.getD_eq_getD_getElem?, Array.getElem?_eq_none (by have := h.1; omega)]
    exact .tup rfl (fun i h => by cases h)

theorem cX_sound {x : Operand} {x' : X} {a : List V} {ca : Act} (h : cX G x = some x') (ha : VRs F r a ca.tmps) (hG : GlobOK F G) :
    VR F r (x'.ev a) (ca.eval x) := by
  cases x with
  | tmp t => simp only [cX, Option.some.injEq] at h; subst h; exact ha.getD t
  | const v =>
    simp only [cX, Option.map_eq_some_iff] at h
    obtain ⟨v', h, rfl⟩ := h
    exact toV_sound _ _ h
  | global g =>
    simp only [cX, Option.map_eq_some_iff] at h
    obtain ⟨cs, h, rfl⟩ := h
    obtain ⟨C, h1, h2, h3⟩ := hG g cs h
    exact VR.fp (o := 0) h1 (by omega) (fun i a b => by simpa using h3 i a (by omega))
  | func f => simp only [cX, Option.some.injEq] at h; subst h; exact .fn rfl (fun i h => by cases h)

theorem cXs_sound {a : List V} {ca : Act} (ha : VRs F r a ca.tmps) (hG : GlobOK F G) : ∀ {xs : List Operand} {ys : List X}, cXs G xs = some ys →
    VRs F r (ys.map (X.ev a)) ⟨xs.map ca.eval⟩
  | [], ys, h => by simp only [cXs, Option.some.injEq] at h; subst h; exact .nil
  | x :: xs, ys, h => by
    simp only [cXs] at h
    split at h
    · rename_i y ys' hy hys
      cases h
      have h1 := cX_sound hy ha hG
      have h2 := cXs_sound ha hG hys
      refine ⟨by simpa using h2.1, fun i p q => ?_⟩
      cases i with
      | zero => exact h1
      | succ i => exact h2.2 i (by simpa using p) (by simpa using q)
    · cases h

/-- An operation that answers: related value, related memory. -/
def OpS (K : CodeR) (P : Program) (F : Frz) (r : Loc) (m : Mem) (w : World) (s : Sem Value) (v : V) (m' : Mem) : Prop :=
  ∃ u w' F' r', s.run P w = .ok u w' ∧ Sim K F' r' m' w' ∧ St F r m w F' r' m' w' ∧ VR F' r' v u

theorem OpS.pure {s : Sem Value} {v u} (hs : Sim K F r m w) (h : s.run P w = .ok u w) (hv : VR F r v u) : OpS K P F r m w s v m :=
  ⟨u, w, F, r, h, hs, .refl .., hv⟩

/- Windows on a row of cells. -/
def Win (F : Frz) (r : Loc) (cs : List V) (C : Array Value) (o : Nat) : Prop :=
  o + cs.length ≤ C.size ∧ ∀ i (h1 : i < cs.length) (h2 : o + i < C.size), VR F r cs[i] C[o + i]
theorem Win.mono {F F' : Frz} {r r' : Loc} {cs C o} (h : Win F r cs C o) (hF : F.le F') (hr : r.le r') : Win F' r' cs C o :=
  ⟨h.1, fun i a b => (h.2 i a b).mono hF hr⟩
theorem Win.extract {cs C o} (h : Win F r cs C o) {off size : Nat} (ho : off + size ≤ cs.length) :
    VRs F r ((cs.drop off).take size) (C.extract (o + off) (o + off + size)) := by
  have := h.1
  refine ⟨by simp; omega, fun i a b => ?_⟩
  simp only [List.length_take, List.length_drop] at a
  simp only [List.getElem_take, List.getElem_drop, Array.getElem_extract]
  simp only [Nat.add_assoc]
  exact h.2 (off + i) (by omega) (by omega)
theorem Win.get {cs C o} (h : Win F r cs C o) {off : Nat} {v} (hv : cs[off]? = some v) : ∃ u, C[o + off]? = some u ∧ VR F r v u := by
  obtain ⟨hlt, rfl⟩ := List.getElem?_eq_some_iff.1 hv
  have := h.1
  exact ⟨C[o + off]'(by omega), Array.getElem?_eq_getElem _, h.2 off hlt (by omega)⟩
theorem Win.take_drop {cs C o} (h : Win F r cs C o) {off size : Nat} (ho : off + size ≤ cs.length) : Win F r ((cs.drop off).take size) C (o + off) := by
  have := h.1
  refine ⟨by simp; omega, fun i a b => ?_⟩
  simp only [List.length_take, List.length_drop] at a
  simp only [List.getElem_take, List.getElem_drop, Nat.add_assoc]
  exact h.2 (off + i) (by omega) (by omega)

theorem addr_add (b off n : Nat) : (Addr.mk b off none).add n = ⟨b, off + n, none⟩ := by
  unfold Addr.add
  by_cases h : n = 0
  · subst h; simp
  · simp [h]

theorem cell_of {b : Nat} {C : Array Value} {e fr} (h : w.heap[b]? = some (.cells C e fr)) (i : Nat) : w.cell? ⟨b, i, none⟩ = C[i]? := by
  simp [World.cell?, h]
theorem frozen_of {b : Nat} {C : Array Value} {e fr} (h : w.heap[b]? = some (.cells C e fr)) (i : Nat) :
    w.frozen? ⟨b, i, none⟩ = (decide (fr.1 ≤ i) && decide (i < fr.2)) := by
  simp [World.frozen?, h]

theorem run_loadCellsFrom {b off : Nat} {C : Array Value} {e fr} (h : w.heap[b]? = some (.cells C e fr)) :
    ∀ (n i : Nat) (acc : Array Value), off + i + n ≤ C.size →
      (loadCellsFrom ⟨b, off, none⟩ i n acc).run P w = .ok (acc ++ C.extract (off + i) (off + i + n)) w
  | 0, i, acc, _ => by simp [loadCellsFrom]; omega
  | n + 1, i, acc, hn => by
    have hc : w.cell? ⟨b, off + i, none⟩ = some (C[off + i]'(by omega)) := by
      rw [cell_of h, Array.getElem?_eq_getElem]
    have hlt : off + i < C.size := by omega
    have ih := run_loadCellsFrom (off := off) h n (i + 1) (acc.push (C[off + i]'hlt)) (by omega)
    simp only [loadCellsFrom, Sem.run_bind, addr_add]
    simp only [load, Sem.run, hc, Result.andThen_ok, ih]
    congr 1
    apply Array.ext
    · simp; omega
    · intro j h1 h2
      simp only [Array.getElem_append, Array.size_push, Array.getElem_extract, Array.getElem_push]
      by_cases hj : j < acc.size
      · rw [dif_pos (by omega), dif_pos hj, dif_pos hj]
      · by_cases hj' : j = acc.size
        · subst hj'
          rw [dif_pos (by omega), dif_neg (by omega), dif_neg (by omega)]
          simp
        · rw [dif_neg (by omega), dif_neg (by omega)]
          congr 1; omega

theorem run_loadCells {b off n : Nat} {C : Array Value} {e fr} (h : w.heap[b]? = some (.cells C e fr)) (hn : off + n ≤ C.size) :
    (loadCells ⟨b, off, none⟩ n).run P w = .ok (C.extract off (off + n)) w := by
  unfold loadCells
  rw [run_loadCellsFrom h n 0 #[] (by omega)]
  simp

theorem run_isAgg {t : TypeId} {b : Bool} (h : aggT P t = some b) : (isAgg t).run P w = .ok b w := by
  unfold aggT at h
  unfold isAgg underlying
  simp only [Sem.run_bind, run_program, Result.andThen_ok]
  split at h <;> rename_i hd <;> simp_all
theorem run_sizeOf {t : TypeId} {n : Nat} (h : sizeT P t = some n) : (sizeOf t).run P w = .ok n w := by
  unfold sizeT at h
  simp only [Option.map_eq_some_iff] at h
  obtain ⟨i, hi, rfl⟩ := h
  simp [sizeOf, typeInfo, hi]
theorem run_under {t : TypeId} {d : TypeDesc} (h : P.underlying t = some d) : (underlying t).run P w = .ok d w := by
  simp [underlying, h]

/-- Reading a variable out of a window on cells. -/
theorem run_loadVar_win {t : TypeId} {agg : Bool} {size b o off : Nat} {C : Array Value} {e fr cs v} (ha : aggT P t = some agg) (hsz : sizeT P t = some size)
    (hb : w.heap[b]? = some (.cells C e fr)) (hw : Win F r cs C o) (hv : rd agg size cs off = some v) :
    ∃ u, (loadVar t ⟨b, o + off, none⟩).run P w = .ok u w ∧ VR F r v u := by
  unfold loadVar
  simp only [Sem.run_bind, run_isAgg ha, Result.andThen_ok]
  cases agg with
  | true =>
    simp only [rd, if_true] at hv
    split at hv
    · rename_i hle
      cases hv
      have := hw.1
      have he := hw.extract hle
      refine ⟨_, ?_, .agg he.1 he.2⟩
      simp only [if_true, Sem.run_bind, run_sizeOf hsz, Result.andThen_ok]
      rw [run_loadCells hb (by omega)]
      simp
    · cases hv
  | false =>
    simp only [rd, Bool.false_eq_true, if_false] at hv ⊢
    obtain ⟨u, hu, hvr⟩ := hw.get hv
    refine ⟨u, ?_, hvr⟩
    simp [load, Sem.run, cell_of hb, hu]

theorem ObjR.win {e cs ro N} {o : Obj} (h : ObjR K F r N (.cells e cs ro) o) : ∃ C fr, o = .cells C e fr ∧ C.size = N ∧ Win F r cs C 0 ∧
    (∀ i, i < C.size → (ro = true → cs.length ≤ i) → ¬ (fr.1 ≤ i ∧ i < fr.2)) := by
  cases h with
  | cells h1 h2 h3 h4 => exact ⟨_, _, rfl, h1, ⟨by omega, fun i a b => by simpa using h3 i a (by omega)⟩, h4⟩
theorem ObjR.of_win {e cs ro N} {C : Array Value} {fr : Nat × Nat} (h1 : C.size = N) (h2 : Win F r cs C 0)
    (h3 : ∀ i, i < C.size → (ro = true → cs.length ≤ i) → ¬ (fr.1 ≤ i ∧ i < fr.2)) : ObjR K F r N (.cells e cs ro) (.cells C e fr) :=
  .cells h1 (by have := h2.1; omega) (fun i a b => by simpa using h2.2 i a (by omega)) h3

theorem loadV_sound {t : TypeId} {agg : Bool} {size : Nat} {a v : V} {u : Value} (hs : Sim K F r m w) (ha : aggT P t = some agg) (hsz : sizeT P t = some size)
    (hv : loadV m agg size a = some v) (hu : VR F r a u) : OpS K P F r m w (Instr.loadAt t u) v m := by
  unfold loadV at hv
  cases hu with
  | ptr hr =>
    rename_i c off b N
    simp only at hv
    split at hv
    · rename_i e cs ro hc
      obtain ⟨b', N', o, h1, h2, h3, h4⟩ := hs.obj _ _ hc
      rw [hr] at h1; cases h1
      obtain ⟨C, fr, rfl, hN, hw, _⟩ := h3.win
      obtain ⟨u, hrun, hvr⟩ := run_loadVar_win ha hsz h2 hw hv
      refine OpS.pure hs ?_ hvr
      simp only [Instr.loadAt, Instr.sureAddr, Sem.run_bind, Sem.run_pure, Result.andThen_ok]
      rw [← hrun]; simp
    · cases hv
  | fp hF hl hcs =>
    rename_i cs off b o C
    simp only at hv
    obtain ⟨e, fr, h2⟩ := hs.frz _ _ hF
    obtain ⟨u, hrun, hvr⟩ := run_loadVar_win (F := F) (r := nowhere) ha hsz h2 ⟨hl, hcs⟩ hv
    refine OpS.pure hs ?_ (hvr.mono (Frz.le_refl _) (nowhere_le _))
    simp only [Instr.loadAt, Instr.sureAddr, Sem.run_bind, Sem.run_pure, Result.andThen_ok]
    rw [← hrun]
  | _ => cases hv

end
end Go.Proofs.YtjjgiigbhjfkaaaGreatDoor.Am

namespace Go.Proofs.YtjjgiigbhjfkaaaGreatDoor.Am
open Go

section
variable {K : CodeR} {F : Frz} {r : Loc} {m : Mem} {w : World} {P : Program} {G : Glob}

theorem VRs.get {vs us} (h : VRs F r vs us) {i : Nat} {v} (hv : vs[i]? = some v) : ∃ u, us[i]? = some u ∧ VR F r v u := by
  obtain ⟨hlt, rfl⟩ := List.getElem?_eq_some_iff.1 hv
  exact ⟨us[i]'(h.1 ▸ hlt), Array.getElem?_eq_getElem _, h.2 i hlt _⟩

theorem VR.cells {v u} (h : VR F r v u) : VRs F r v.cells u.cells := by
  cases h with
  | agg h1 h2 => exact ⟨h1, h2⟩
  | _ => exact ⟨rfl, fun i a b => by
      simp only [V.cells, List.length_singleton] at a
      have : i = 0 := by omega
      subst this
      simp only [V.cells, Value.cells, List.getElem_singleton, List.getElem_toArray]
      first | exact .bool | exact .int | exact .str ‹_› | exact .nilp | exact .ptr ‹_› | exact .fp ‹_› ‹_› ‹_› | exact .nils | exact .sl ‹_› ‹_› ‹_› ‹_› ‹_› | exact .lst ‹_› ‹_› ‹_› ‹_› ‹_› | exact .nilm | exact .mp ‹_› | exact .fn ‹_› ‹_› | exact .yield ‹_› | exact .nilf | exact .nili | exact .iface ‹_› | exact .tup ‹_› ‹_›⟩

def oneC : Value → Bool
  | .agg _ => false
  | .tuple _ => false
  | _ => true
theorem VR.oneC {v u} (h : VR F r v u) (hv : v.isCell = true) : oneC u = true := by
  cases h <;> first | rfl | simp [V.isCell] at hv

theorem setCell_putB {b i : Nat} {C : Array Value} {e fr} (h : w.heap[b]? = some (.cells C e fr)) (u : Value) :
    w.setCell ⟨b, i, none⟩ u = putB w b (.cells (C.setIfInBounds i u) e fr) := by
  unfold World.setCell putB
  congr 1
  obtain ⟨hlt, hb⟩ := Array.getElem?_eq_some_iff.1 h
  apply Array.ext (by simp)
  intro j h1 h2
  simp only [Array.getElem_modify, Array.getElem_setIfInBounds (by simpa using h1)]
  by_cases e : b = j
  · subst e; simp [hb]
  · simp [e]

theorem run_store1 {b i : Nat} {C : Array Value} {e fr} (h : w.heap[b]? = some (.cells C e fr)) (hi : i < C.size) (hf : ¬ (fr.1 ≤ i ∧ i < fr.2)) {u : Value}
    (hu : oneC u = true) : (store ⟨b, i, none⟩ u).run P w = .ok () (putB w b (.cells (C.setIfInBounds i u) e fr)) := by
  have hc : w.cell? ⟨b, i, none⟩ = some C[i] := by rw [cell_of h, Array.getElem?_eq_getElem hi]
  have hfz : w.frozen? ⟨b, i, none⟩ = false := by
    rw [frozen_of h]
    by_cases h1 : fr.1 ≤ i
    · have : ¬ i < fr.2 := fun h2 => hf ⟨h1, h2⟩
      simp [this]
    · simp [h1]
  unfold store
  cases u <;> first | (simp only [Sem.run, hc, hfz]; rw [setCell_putB h]; rfl) | cases hu

/-- C, with us written over it from off on. -/
def spliceA : Array Value → Nat → List Value → Array Value
  | C, _, [] => C
  | C, off, u :: us => spliceA (C.setIfInBounds off u) (off + 1) us
@[simp] theorem spliceA_size : ∀ (us : List Value) (C : Array Value) (off : Nat), (spliceA C off us).size = C.size
  | [], C, off => rfl
  | u :: us, C, off => by simp [spliceA, spliceA_size us]
theorem spliceA_get : ∀ (us : List Value) (C : Array Value) (off j : Nat), off + us.length ≤ C.size →
    (spliceA C off us)[j]? = if off ≤ j ∧ j < off + us.length then us[j - off]? else C[j]?
  | [], C, off, j, _ => by simp [spliceA]; omega
  | u :: us, C, off, j, h => by
    simp only [List.length_cons] at h
    rw [spliceA, spliceA_get us _ (off + 1) j (by simp; omega)]
    simp only [List.length_cons]
    by_cases h1 : off + 1 ≤ j ∧ j < off + 1 + us.length
    · rw [if_pos h1, if_pos (by omega)]
      have : j - off = (j - (off + 1)) + 1 := by omega
      rw [this, List.getElem?_cons_succ]
    · rw [if_neg h1]
      by_cases h2 : j = off
      · subst h2
        rw [if_pos (by omega)]
        simp [Array.getElem?_setIfInBounds_self]; omega
      · rw [if_neg (by omega), Array.getElem?_setIfInBounds_ne (by omega)]

theorem run_storeCells : ∀ (us : List Value) {w : World} {b off i : Nat} {C : Array Value} {e fr}, w.heap[b]? = some (.cells C e fr) → off + i + us.length ≤ C.size →
    (∀ j, off + i ≤ j → j < off + i + us.length → ¬ (fr.1 ≤ j ∧ j < fr.2)) → (∀ u ∈ us, oneC u = true) →
    (storeCells ⟨b, off, none⟩ us i).run P w = .ok () (putB w b (.cells (spliceA C (off + i) us) e fr))
  | [], w, b, off, i, C, e, fr, h, _, _, _ => by simp [storeCells, spliceA, putB_id h]
  | u :: us, w, b, off, i, C, e, fr, h, hl, hf, hu => by
    simp only [List.length_cons] at hl hf
    have h1 := run_store1 (P := P) h (i := off + i) (by omega) (hf _ (Nat.le_refl _) (by omega)) (hu u (by simp))
    have hlt := (Array.getElem?_eq_some_iff.1 h).1
    have ih := run_storeCells us (w := putB w b (.cells (C.setIfInBounds (off + i) u) e fr)) (b := b) (off := off) (i := i + 1) (putB_same hlt) (by simp; omega)
      (fun j h1 h2 => hf j (by omega) (by omega)) (fun u' hu' => hu u' (by simp [hu']))
    simp only [storeCells, Sem.run_bind, addr_add, h1, Result.andThen_ok, ih, putB_putB, spliceA]
    rfl

theorem getElem?_splice {cs xs : List V} {off j : Nat} (h : off ≤ cs.length) :
    (splice cs off xs)[j]? = if off ≤ j ∧ j < off + xs.length then xs[j - off]? else cs[j]? := by
  unfold splice
  by_cases h1 : j < off
  · rw [if_neg (by omega), List.append_assoc, List.getElem?_append_left (by simp; omega), List.getElem?_take_of_lt h1]
  · rw [List.append_assoc, List.getElem?_append_right (by simp; omega)]
    simp only [List.length_take, Nat.min_eq_left h]
    by_cases h2 : j < off + xs.length
    · rw [if_pos (by omega), List.getElem?_append_left (by omega)]
    · rw [if_neg (by omega), List.getElem?_append_right (by omega), List.getElem?_drop]
      congr 1; omega
theorem length_splice {cs xs : List V} {off : Nat} (h : off + xs.length ≤ cs.length) : (splice cs off xs).length = cs.length := by
  simp [splice]; omega

theorem Win.of_get {cs : List V} {C : Array Value} {o : Nat} (hl : o + cs.length ≤ C.size)
    (h : ∀ i v, cs[i]? = some v → ∃ u, C[o + i]? = some u ∧ VR F r v u) : Win F r cs C o :=
  ⟨hl, fun i h1 h2 => by
    obtain ⟨u, hu, hv⟩ := h i _ (List.getElem?_eq_getElem h1)
    rw [Array.getElem?_eq_getElem h2] at hu
    cases hu; exact hv⟩

theorem Win.splice {cs xs : List V} {C : Array Value} {us : List Value} {off : Nat} (h : Win F r cs C 0) (hx : VRs F r xs ⟨us⟩) (ho : off + xs.length ≤ cs.length) :
    Win F r (splice cs off xs) (spliceA C off us) 0 := by
  have hlen : xs.length = us.length := by simpa using hx.1
  have := h.1
  refine .of_get (by rw [length_splice ho]; simpa using h.1) fun i v hv => ?_
  rw [getElem?_splice (by omega)] at hv
  rw [spliceA_get _ _ _ _ (by omega)]
  split at hv
  · rename_i hc
    rw [if_pos (by omega)]
    obtain ⟨u, hu, hvr⟩ := hx.get hv
    exact ⟨u, by simpa using hu, hvr⟩
  · rename_i hc
    rw [if_neg (by omega)]
    obtain ⟨u, hu, hvr⟩ := h.get hv
    exact ⟨u, hu, hvr⟩

theorem all_oneC {xs : List V} {us : List Value} (hx : VRs F r xs ⟨us⟩) (h : xs.all V.isCell = true) : ∀ u ∈ us, oneC u = true := by
  intro u hu
  obtain ⟨i, hi, rfl⟩ := List.getElem_of_mem hu
  have h1 : i < xs.length := by have := hx.1; simp at this; omega
  exact (hx.2 i h1 (by simpa using hi)).oneC (List.all_eq_true.1 h _ (List.getElem_mem h1))

/-- An effect without a value: related memory. -/
def OpU (K : CodeR) (P : Program) (F : Frz) (r : Loc) (m : Mem) (w : World) (s : Sem Unit) (m' : Mem) : Prop :=
  ∃ w' F' r', s.run P w = .ok () w' ∧ Sim K F' r' m' w' ∧ St F r m w F' r' m' w'

theorem storeV_sound {t : TypeId} {size : Nat} {a x : V} {ua ux : Value} {m' : Mem} (hs : Sim K F r m w) (hsz : sizeT P t = some size)
    (hv : storeV m size a x = some m') (ha : VR F r a ua) (hx : VR F r x ux) : OpU K P F r m w (Instr.storeAt t ua ux) m' := by
  unfold storeV at hv
  cases ha with
  | ptr hr =>
    rename_i c off b N
    simp only at hv
    split at hv
    · rename_i e cs hc
      split at hv
      · rename_i hcond
        obtain ⟨hlen, hle, hall⟩ := hcond
        cases hv
        obtain ⟨b', N', o, h1, h2, h3, h4⟩ := hs.obj _ _ hc
        rw [hr] at h1; cases h1
        obtain ⟨C, fr, rfl, hN, hw, hfz⟩ := h3.win
        have hxs := hx.cells
        have hxs' : VRs F r x.cells ⟨ux.cells.toList⟩ := by simpa using hxs
        have hul : ux.cells.size = size := by rw [← hxs.1, hlen]
        have hCs := hw.1
        have hrun := run_storeCells (P := P) ux.cells.toList (off := off) (i := 0) h2 (by simp; omega)
          (fun j _ hj => hfz j (by simp at hj; omega) (fun h => by cases h)) (all_oneC hxs' hall)
        refine ⟨_, F, r, ?_, hs.set hc hr (.of_win (C := spliceA C off ux.cells.toList) (fr := fr) (by simpa using hN) (hw.splice hxs' (by omega))
          (fun j hj h => hfz j (by simpa using hj) (fun h => by cases h))), hs.st_set hc hr _ _⟩
        simp only [Instr.storeAt, Instr.sureAddr, storeVar, Sem.run_bind, Sem.run_pure, Result.andThen_ok, run_sizeOf hsz, hul, ne_eq, not_true, if_false]
        rw [hrun]
        simp
      · cases hv
    · cases hv
  | _ => cases hv

theorem run_zeroValue {t : TypeId} {z : Value} {i} (hi : P.info? t = some i) (hz : i.zero = some z) : (zeroValue t).run P w = .ok z w := by
  simp [zeroValue, typeInfo, hi, hz]
theorem zeroT_sound {t : TypeId} {z : V} (h : zeroT P t = some z) : ∃ u, (∀ w, (zeroValue t).run P w = .ok u w) ∧ (∀ F r, VR F r z u) := by
  unfold zeroT at h
  split at h
  · rename_i i hi
    split at h
    · rename_i u hu
      exact ⟨u, fun w => run_zeroValue hi hu, fun F r => toV_sound _ _ h⟩
    · cases h
  · cases h
theorem zerosT_sound {t : TypeId} {zs : List V} (h : zerosT P t = some zs) :
    ∃ u, (∀ w, (zeroValue t).run P w = .ok u w) ∧ (∀ F r, VRs F r zs u.cells) ∧ sizeT P t = some zs.length := by
  unfold zerosT at h
  split at h
  · rename_i z n hz hn
    split at h
    · rename_i hlen
      cases h
      obtain ⟨u, h1, h2⟩ := zeroT_sound hz
      exact ⟨u, h1, fun F r => (h2 F r).cells, by rw [hn, hlen]⟩
    · cases h
  · cases h

theorem VRs.objR {vs : List V} {us : Array Value} {e : Nat} (h : VRs F r vs us) : ObjR K F r us.size (.cells e vs false) (.cells us e) :=
  .cells rfl (Nat.le_of_eq h.1) h.2 (fun i _ hi hh => by simp at hh)

theorem newRow_sound {vs : List V} {us : Array Value} {e : Nat} (hs : Sim K F r m w) (h : VRs F r vs us) :
    (newRow e us).run P w = .ok ⟨w.heap.size, 0, none⟩ (w.alloc (.cells us e)) ∧
    Sim K F (r.put m.size (w.heap.size, us.size)) (m.push (.cells e vs false)) (w.alloc (.cells us e)) := by
  refine ⟨by simp [newRow], hs.push (VRs.objR (h.mono (Frz.le_refl _) (hs.le_put _)))⟩

theorem alloc_sound {t : TypeId} {zs : List V} (hs : Sim K F r m w) (hz : zerosT P t = some zs) :
    OpS K P F r m w (Instr.alloc t true (.tuple #[])) (.ptr m.size 0) (m.push (.cells t zs false)) := by
  obtain ⟨u, h1, h2, _⟩ := zerosT_sound hz
  obtain ⟨hrun, hsim⟩ := newRow_sound (P := P) (e := t) hs (h2 F r)
  refine ⟨_, _, F, _, ?_, hsim, hs.st_push _ _ _, .ptr (Loc.put_same ..)⟩
  simp only [Instr.alloc, Sem.run_bind, h1, Result.andThen_ok, newVar, hrun, Sem.run_pure]

theorem box_sound {t : TypeId} {v : V} {u : Value} (hs : Sim K F r m w) (hv : VR F r v u) :
    OpS K P F r m w (Instr.box t u) (.ptr m.size 0) (m.push (.cells t v.cells false)) := by
  obtain ⟨hrun, hsim⟩ := newRow_sound (P := P) (e := t) hs hv.cells
  refine ⟨_, _, F, _, ?_, hsim, hs.st_push _ _ _, .ptr (Loc.put_same ..)⟩
  simp only [Instr.box, Sem.run_bind, Result.andThen_ok, newVar, hrun, Sem.run_pure]

end
end Go.Proofs.YtjjgiigbhjfkaaaGreatDoor.Am

namespace Go.Proofs.YtjjgiigbhjfkaaaGreatDoor.Am
open Go

section
variable {K : CodeR} {F : Frz} {r : Loc} {m : Mem} {w : World} {P : Program} {G : Glob}

theorem foldl_zipIdx : ∀ (l : List Value) (C : Array Value) (off k : Nat),
    (l.zipIdx k).foldl (fun cs (x : Value × Nat) => cs.setIfInBounds (off + x.2) x.1) C = spliceA C (off + k) l
  | [], C, off, k => rfl
  | u :: l, C, off, k => by
    rw [List.zipIdx_cons, List.foldl_cons, foldl_zipIdx l _ off (k + 1)]
    rfl
theorem foldl_zipIdxA (us C : Array Value) (off : Nat) :
    us.zipIdx.foldl (fun cs (x : Value × Nat) => cs.setIfInBounds (off + x.2) x.1) C = spliceA C off us.toList := by
  rw [← Array.foldl_toList, Array.toList_zipIdx, foldl_zipIdx]
  rfl

theorem run_mapM_list {α β : Type} {f : α → Sem β} {g : α → β} : ∀ (l : List α), (∀ x ∈ l, (f x).run P w = .ok (g x) w) → (l.mapM f).run P w = .ok (l.map g) w
  | [], _ => by simp
  | x :: l, h => by
    rw [List.mapM_cons]
    simp only [Sem.run_bind, h x (by simp), Result.andThen_ok, run_mapM_list l (fun y hy => h y (by simp [hy])), Sem.run_pure, List.map_cons]
theorem run_mapM_array {α β : Type} {f : α → Sem β} {g : α → β} (xs : Array α) (h : ∀ x ∈ xs.toList, (f x).run P w = .ok (g x) w) :
    (xs.mapM f).run P w = .ok (xs.map g) w := by
  rw [Array.mapM_eq_mapM_toList, Sem.run_map, run_mapM_list _ h]
  simp only [Result.andThen_ok]
  congr 1
  apply Array.ext' ; simp

theorem VRs.win {cs : List V} {C : Array Value} (h : VRs F r cs C) : Win F r cs C 0 :=
  ⟨by rw [h.1]; omega, fun i a b => by simpa using h.2 i a (by omega)⟩
theorem Win.vrs {cs : List V} {C : Array Value} (h : Win F r cs C 0) (hl : cs.length = C.size) : VRs F r cs C :=
  ⟨hl, fun i a b => by simpa using h.2 i a (by omega)⟩

theorem fill_sound {pl : Nat → Option (Nat × Nat)} {a : List V} {ca : Act} (ha : VRs F r a ca.tmps) (hG : GlobOK F G) :
    ∀ (ps : List (Nat × Operand)) (xs : List (Nat × Nat × X)) (zs cs : List V) (C : Array Value), cParts G pl ps = some xs → fillV zs (partsV a xs) = some cs → VRs F r zs C →
      ∃ us, Instr.fill pl C (ps.map fun x => (x.1, ca.eval x.2)) = some us ∧ VRs F r cs us
  | [], xs, zs, cs, C, h, hf, hz => by
    simp only [cParts, Option.some.injEq] at h
    subst h
    simp only [partsV, fillV, Option.some.injEq] at hf
    subst hf
    exact ⟨C, rfl, hz⟩
  | (i, x) :: ps, xs, zs, cs, C, h, hf, hz => by
    simp only [cParts] at h
    split at h
    · rename_i o s y ys hpl hy hys
      cases h
      simp only [partsV, fillV] at hf
      split at hf
      · rename_i hc
        have hv := (cX_sound hy ha hG).cells
        have hz1 := hz.1
        have hv1 := hv.1
        have hv' : VRs F r (y.ev a).cells ⟨(ca.eval x).cells.toList⟩ := by simpa using hv
        obtain ⟨us, hus, hcs⟩ := fill_sound ha hG ps ys (splice zs o (y.ev a).cells) cs (spliceA C o (ca.eval x).cells.toList) hys hf
          ((hz.win.splice hv' (by omega)).vrs (by rw [length_splice (by omega)]; simpa using hz1))
        refine ⟨us, ?_, hcs⟩
        have hcond : ((ca.eval x).cells.size ≠ s || o + (ca.eval x).cells.size > C.size) = false := by
          simp; omega
        simp only [List.map_cons, Instr.fill, hpl]
        rw [if_neg (by simpa using hcond), foldl_zipIdxA]
        exact hus
      · cases hf
    · cases h

theorem build_sound {t : TypeId} {ps : Array (Nat × Operand)} {xs : List (Nat × Nat × X)} {pl : Nat → Option (Nat × Nat)} {zs cs : List V} {a : List V} {ca : Act}
    (hs : Sim K F r m w) (ha : VRs F r a ca.tmps) (hG : GlobOK F G) (hz : zerosT P t = some zs) (hpl : placesT P t = some pl)
    (hx : cParts G pl ps.toList = some xs) (hf : fillV zs (partsV a xs) = some cs) :
    OpS K P F r m w (Instr.build t (ps.map fun x => (x.1, ca.eval x.2))) (.agg cs) m := by
  obtain ⟨u, h1, h2, _⟩ := zerosT_sound hz
  obtain ⟨us, hus, hcs⟩ := fill_sound ha hG ps.toList xs zs cs u.cells hx hf (h2 F r)
  refine OpS.pure hs ?_ (.agg hcs.1 hcs.2)
  unfold placesT at hpl
  split at hpl
  · rename_i fs hd
    split at hpl
    · rename_i hall
      cases hpl
      have hm := run_mapM_array (P := P) (w := w) (f := fun (f : Field) => do pure (f.offset, ← sizeOf f.type)) (g := fun f => (f.offset, (sizeT P f.type).getD 0)) fs (by
        intro f hf
        have := List.all_eq_true.1 hall f hf
        obtain ⟨n, hn⟩ := Option.isSome_iff_exists.1 this
        simp [run_sizeOf hn, hn])
      simp only [Instr.build, Sem.run_bind, h1, Result.andThen_ok, run_under hd, hm]
      have hfun : (fun i => (fs.map fun (f : Field) => (f.offset, (sizeT P f.type).getD 0))[i]?) = fplT P fs := by
        funext i
        simp only [Array.getElem?_map, fplT]
        cases hfi : fs[i]? with
        | none => rfl
        | some f =>
          have := List.all_eq_true.1 hall f (by simpa using Array.mem_of_getElem? hfi)
          obtain ⟨n, hn⟩ := Option.isSome_iff_exists.1 this
          simp [hn]
      rw [hfun]
      simp only [Array.toList_map, hus, Sem.run_pure]
    · cases hpl
  · rename_i n e hd
    split at hpl
    · rename_i s hs'
      cases hpl
      simp only [Instr.build, Sem.run_bind, h1, Result.andThen_ok, run_under hd, run_sizeOf hs', Array.toList_map, hus, Sem.run_pure]
    · cases hpl
  · cases hpl

theorem getElem?_replicate_flatten {α : Type} {zs : List α} : ∀ (n i : Nat), i < n * zs.length → (List.replicate n zs).flatten[i]? = zs[i % zs.length]?
  | 0, i, h => by simp at h
  | n + 1, i, h => by
    rw [List.replicate_succ, List.flatten_cons]
    by_cases hi : i < zs.length
    · rw [List.getElem?_append_left hi, Nat.mod_eq_of_lt hi]
    · rw [List.getElem?_append_right (by omega)]
      have hz : 0 < zs.length := by
        rcases Nat.eq_zero_or_pos zs.length with h0 | h0
        · rw [h0] at h; simp at h
        · exact h0
      have h' : i < n * zs.length + zs.length := by rw [Nat.add_mul, Nat.one_mul] at h; exact h
      rw [getElem?_replicate_flatten n (i - zs.length) (by omega)]
      rw [Nat.mod_eq_sub_mod (a := i) (by omega)]

theorem zeros_sound {zs : List V} {C : Array Value} (h : VRs F r zs C) (n : Nat) :
    VRs F r (List.replicate n zs).flatten ((Array.range (n * C.size)).map (fun i => C[i % C.size]!)) := by
  have h1 := h.1
  refine ⟨by simp [h1], fun i a b => ?_⟩
  have hi : i < n * zs.length := by simpa using a
  have hz : 0 < zs.length := by
    rcases Nat.eq_zero_or_pos zs.length with h0 | h0
    · rw [h0] at hi; simp at hi
    · exact h0
  have hm : i % zs.length < zs.length := Nat.mod_lt _ hz
  have e1 : (List.replicate n zs).flatten[i]'a = zs[i % zs.length]'hm := by
    have := getElem?_replicate_flatten (zs := zs) n i hi
    rw [List.getElem?_eq_getElem a, List.getElem?_eq_getElem hm] at this
    exact Option.some.inj this
  rw [e1]
  simp only [Array.getElem_map, Array.getElem_range]
  have hm' : i % C.size < C.size := by rw [← h1]; exact hm
  rw [getElem!_pos C (i % C.size) hm']
  have := h.2 (i % zs.length) hm (by rw [← h1]; exact hm)
  simpa [h1] using this

theorem buildS_sound {t e : TypeId} {n : Nat} {ps : Array (Nat × Operand)} {xs : List (Nat × Nat × X)} {zs cs : List V} {a : List V} {ca : Act}
    (hs : Sim K F r m w) (ha : VRs F r a ca.tmps) (hG : GlobOK F G) (hd : P.underlying t = some (.slice e)) (hz : zerosT P e = some zs)
    (hn : n * zs.length ≤ 2 ^ 24)
    (hx : cParts G (fun i => some (i * zs.length, zs.length)) ps.toList = some xs) (hf : fillV (List.replicate n zs).flatten (partsV a xs) = some cs) :
    OpS K P F r m w (Instr.buildSlice t n (ps.map fun x => (x.1, ca.eval x.2))) (.sl m.size 0 n zs.length (some n)) (m.push (.cells e cs false)) := by
  obtain ⟨u, h1, h2, hsz⟩ := zerosT_sound hz
  have hzs := zeros_sound (h2 F r) n
  obtain ⟨us, hus, hcs⟩ := fill_sound ha hG ps.toList xs _ cs _ hx hf hzs
  obtain ⟨hrun, hsim⟩ := newRow_sound (P := P) (e := e) hs hcs
  have hlen : us.size = n * zs.length := by
    have hsz : ∀ (ps : List (Nat × Value)) (pl : Nat → Option (Nat × Nat)) (C us : Array Value), Instr.fill pl C ps = some us → us.size = C.size := by
      intro ps
      induction ps with
      | nil => intro pl C us h; simp only [Instr.fill, Option.some.injEq] at h; rw [← h]
      | cons p ps ih =>
        intro pl C us h
        obtain ⟨i, v⟩ := p
        simp only [Instr.fill] at h
        split at h
        · cases h
        · split at h
          · cases h
          · rw [ih _ _ _ h, foldl_zipIdxA, spliceA_size]
    rw [hsz _ _ _ _ hus, ← hzs.1]; simp
  refine ⟨_, _, F, _, ?_, hsim, hs.st_push _ _ _, .sl (Loc.put_same ..) (.inl rfl) (by omega) (Nat.le_refl _) (fun k hk => by cases hk; rfl)⟩
  have hcsz : zs.length = u.cells.size := (h2 F r).1
  simp only [Instr.buildSlice, Sem.run_bind, run_under hd, Result.andThen_ok, run_sizeOf hsz]
  rw [if_neg (by omega)]
  by_cases h0 : n * zs.length = 0
  · simp only [h0, if_true, Sem.run_pure, Sem.run_bind, Result.andThen_ok, Array.toList_map]
    have hr0 : (Array.range 0).map (fun i => (#[] : Array Value)[i % (#[] : Array Value).size]!) = (Array.range (n * u.cells.size)).map (fun i => u.cells[i % u.cells.size]!) := by
      rw [← hcsz, h0]; simp
    rw [hr0, hus]
    simp only [Sem.run_bind, hrun, Result.andThen_ok, Sem.run_pure]
  · simp only [h0, if_false, h1, Sem.run_pure, Sem.run_bind, Result.andThen_ok, Array.toList_map]
    rw [hcsz] at hus ⊢
    rw [hus]
    simp only [Sem.run_bind, hrun, Result.andThen_ok, Sem.run_pure]

end
end Go.Proofs.YtjjgiigbhjfkaaaGreatDoor.Am

namespace Go.Proofs.YtjjgiigbhjfkaaaGreatDoor.Am
open Go

section
variable {K : CodeR} {F : Frz} {r : Loc} {m : Mem} {w : World} {P : Program} {G : Glob}

theorem map_toNat_inj : ∀ {a b : List UInt8}, a.map UInt8.toNat = b.map UInt8.toNat → a = b
  | [], [], _ => rfl
  | [], _ :: _, h => by simp at h
  | _ :: _, [], h => by simp at h
  | x :: a, y :: b, h => by
    simp only [List.map_cons, List.cons.injEq] at h
    rw [UInt8.toNat_inj.1 h.1, map_toNat_inj h.2]

theorem ltS_eq : ∀ (a b : List UInt8), Op.bytesLess a b = ltS (a.map UInt8.toNat) (b.map UInt8.toNat)
  | [], [] => rfl
  | _ :: _, [] => rfl
  | [], _ :: _ => rfl
  | x :: a, y :: b => by
    simp only [Op.bytesLess, List.map_cons, ltS, ltS_eq a b]
    have e1 : decide (x < y) = decide (x.toNat < y.toNat) := by simp [UInt8.lt_iff_toNat_lt]
    have e2 : (x == y) = decide (x.toNat = y.toNat) := by
      rw [Bool.eq_iff_iff]; simp [UInt8.toNat_inj]
    rw [e1, e2]

theorem int_beq (x y : Int) : (x == y) = decide (x = y) := by rw [Bool.eq_iff_iff]; simp
theorem intOp_sound {op : BinOp} {k : IntKind} {x y : Int} {v : V} (h : intOp op k x y = some v) (hsh : isShift op = false) (t : TypeId) :
    ∃ u, (binOp op t (.int k x) (.int k y)).run P w = .ok u w ∧ ∀ F r, VR F r v u := by
  cases op <;> simp only [intOp, Option.some.injEq, reduceCtorEq, isShift] at h hsh
  case quo =>
    split at h
    · cases h
    · rename_i hz; cases h
      exact ⟨_, by simp [binOp, Op.intDiv, hz], fun _ _ => .int⟩
  case rem =>
    split at h
    · cases h
    · rename_i hz; cases h
      exact ⟨_, by simp [binOp, Op.intDiv, hz], fun _ _ => .int⟩
  all_goals subst h
  all_goals first
    | (refine ⟨_, ?_, fun _ _ => .int⟩; simp only [binOp, ne_eq, not_true_eq_false, if_false]; rfl)
    | exact ⟨.bool (decide (x = y)), by simp [binOp, Op.intCmp, int_beq], fun _ _ => .bool⟩
    | exact ⟨.bool (!decide (x = y)), by simp [binOp, Op.intCmp, bne, int_beq], fun _ _ => .bool⟩
    | (refine ⟨_, ?_, fun _ _ => .bool⟩; simp only [binOp, ne_eq, not_true_eq_false, if_false]; rfl)
    | cases hsh

theorem shiftOp_sound {op : BinOp} {k k' : IntKind} {x y : Int} {v : V} (h : shiftOp op k x y = some v) (t : TypeId) :
    ∃ u, (binOp op t (.int k x) (.int k' y)).run P w = .ok u w ∧ ∀ F r, VR F r v u := by
  unfold shiftOp at h
  split at h
  · cases h
  · rename_i hy
    cases op <;> simp only [Option.some.injEq, reduceCtorEq] at h <;> subst h <;>
      exact ⟨_, by simp only [binOp, Op.shift, hy, if_false, Sem.run_pure], fun _ _ => .int⟩

theorem strOp_sound {op : BinOp} {x y : List Nat} {a b : ByteArray} {v : V} (h : strOp op x y = some v) (ha : a.data.toList.map UInt8.toNat = x)
    (hb : b.data.toList.map UInt8.toNat = y) (t : TypeId) :
    ∃ u, (binOp op t (.string a) (.string b)).run P w = .ok u w ∧ ∀ F r, VR F r v u := by
  subst ha hb
  have el : ∀ (c : ByteArray), (c.data.toList.map UInt8.toNat).length = c.size := fun c => by simp
  have eq : decide (a.data.toList.map UInt8.toNat = b.data.toList.map UInt8.toNat) = (a.toList == b.toList) := by
    rw [ByteArray.toList_eq, ByteArray.toList_eq, Bool.eq_iff_iff]
    simp only [decide_eq_true_eq, beq_iff_eq]
    exact ⟨map_toNat_inj, fun h => by rw [h]⟩
  have lt : ltS (a.data.toList.map UInt8.toNat) (b.data.toList.map UInt8.toNat) = Op.bytesLess a.toList b.toList := by
    rw [ByteArray.toList_eq, ByteArray.toList_eq, ltS_eq]
  cases op <;> simp only [strOp, Option.some.injEq, reduceCtorEq, eq, lt] at h
  case add =>
    split at h
    · cases h
    · rename_i hl; cases h
      refine ⟨.string (a ++ b), ?_, fun F r => .str ?_⟩
      · simp only [binOp, Op.stringOp]
        rw [el, el] at hl
        rw [if_neg hl]; rfl
      · simp
  all_goals subst h
  all_goals exact ⟨_, by simp [binOp, Op.stringOp], fun _ _ => .bool⟩

theorem run_eqGuard_skip {op : BinOp} {t : TypeId} {x y : Operand} {a b : Value} (h1 : a ≠ .nilIface) (h2 : ∀ cs, a ≠ .agg cs) :
    (eqGuard op t x y a b).run P w = .ok () w := by
  cases op <;> first | rfl | (cases a <;> first | exact absurd rfl h1 | exact absurd rfl (h2 _) | rfl)

theorem bin_sound {op : BinOp} {t : TypeId} {x y : V} {ux uy : Value} {v : V} {px py : Operand} (hs : Sim K F r m w) (h : binV op x y = some v) (hx : VR F r x ux) (hy : VR F r y uy) :
    OpS K P F r m w (do eqGuard op t px py ux uy; binOp op t ux uy) v m := by
  unfold binV at h
  split at h
  · rename_i k a k' b
    cases hx; cases hy
    split at h
    · obtain ⟨u, h1, h2⟩ := shiftOp_sound (P := P) (w := w) (k' := k') h t
      exact OpS.pure hs (by simp only [Sem.run_bind, run_eqGuard_skip (a := .int k a) (by simp) (by simp), Result.andThen_ok, h1]) (h2 F r)
    · rename_i hsh
      split at h
      · rename_i hk; subst hk
        obtain ⟨u, h1, h2⟩ := intOp_sound (P := P) (w := w) h (by simpa using hsh) t
        exact OpS.pure hs (by simp only [Sem.run_bind, run_eqGuard_skip (a := .int k a) (by simp) (by simp), Result.andThen_ok, h1]) (h2 F r)
      · cases h
  · rename_i a b
    cases hx with | str ha => cases hy with | str hb =>
    obtain ⟨u, h1, h2⟩ := strOp_sound (P := P) (w := w) h ha hb t
    exact OpS.pure hs (by simp only [Sem.run_bind, run_eqGuard_skip (a := .string _) (by simp) (by simp), Result.andThen_ok, h1]) (h2 F r)
  · cases h

theorem un_sound {op : UnOp} {x v : V} {u : Value} (hs : Sim K F r m w) (h : unV op x = some v) (hx : VR F r x u) : OpS K P F r m w (Op.unary op u) v m := by
  unfold unV at h
  split at h
  · cases hx
    cases op <;> simp only [Option.some.injEq, reduceCtorEq] at h <;> subst h
    · exact OpS.pure hs (by simp [Op.unary, Op.intArith]) .int
    · exact OpS.pure hs (by simp [Op.unary, Op.intBits]) .int
  · cases hx
    cases op <;> simp only [Option.some.injEq, reduceCtorEq] at h <;> subst h
    exact OpS.pure hs (by simp [Op.unary]) .bool
  · cases h

end
end Go.Proofs.YtjjgiigbhjfkaaaGreatDoor.Am

namespace Go.Proofs.YtjjgiigbhjfkaaaGreatDoor.Am
open Go

section
variable {K : CodeR} {F : Frz} {r : Loc} {m : Mem} {w : World} {P : Program} {G : Glob}

theorem part_sound {t : TypeId} {agg : Bool} {size off : Nat} {cs : List V} {us : Array Value} {v : V} (ha : aggT P t = some agg) (hsz : sizeT P t = some size)
    (hw : VRs F r cs us) (hv : rd agg size cs off = some v) : ∃ u, (∀ w, (part t us off).run P w = .ok u w) ∧ VR F r v u := by
  cases agg with
  | true =>
    simp only [rd, if_true] at hv
    split at hv
    · rename_i hle
      cases hv
      have he := hw.win.extract hle
      refine ⟨_, fun w => ?_, .agg he.1 he.2⟩
      simp only [part, Sem.run_bind, run_isAgg ha, Result.andThen_ok, if_true, run_sizeOf hsz, Sem.run_pure, Nat.zero_add]
    · cases hv
  | false =>
    simp only [rd, Bool.false_eq_true, if_false] at hv
    obtain ⟨u, hu, hvr⟩ := hw.get hv
    refine ⟨u, fun w => ?_, hvr⟩
    simp only [part, Sem.run_bind, run_isAgg ha, Result.andThen_ok, Bool.false_eq_true, if_false, hu, Sem.run_pure]

theorem str_beq {a b : ByteArray} {x y : List Nat} (ha : a.data.toList.map UInt8.toNat = x) (hb : b.data.toList.map UInt8.toNat = y) :
    (a == b) = decide (x = y) := by
  subst ha hb
  rw [beq_toListBytes, ByteArray.toList_eq, ByteArray.toList_eq, Bool.eq_iff_iff]
  simp only [beq_iff_eq, decide_eq_true_eq]
  exact ⟨fun h => by rw [h], map_toNat_inj⟩

theorem eqV_sound (nil : Bool) : ∀ (n : Nat),
    (∀ (t : TypeId) (d : EqD) (x y : V) (ux uy : Value) (b : Bool) (k : Nat), eqDesc P nil n t = some d → eqV d x y = some b → VR F r x ux → VR F r y uy → n ≤ k →
      ∀ w, (Op.equalIn k t ux uy).run P w = .ok b w) ∧
    (∀ (fs : List Field) (ds : List (Nat × Nat × Bool × EqD)) (xs ys : List V) (uxs uys : Array Value) (b : Bool) (k : Nat), eqDescs P nil n fs = some ds → eqsV ds xs ys = some b →
      VRs F r xs uxs → VRs F r ys uys → n ≤ k → ∀ w, (Op.eqFields k uxs uys fs).run P w = .ok b w)
  | 0 => by
    refine ⟨fun t d x y ux uy b k h => by simp [eqDesc] at h, fun fs ds xs ys uxs uys b k h => ?_⟩
    cases fs with
    | nil =>
      simp only [eqDescs, Option.some.injEq] at h
      subst h
      intro h1 _ _ _ w
      simp only [eqsV, Option.some.injEq] at h1
      subst h1
      simp [Op.eqFields]
    | cons f fs => simp [eqDescs] at h
  | n + 1 => by
    have ih := eqV_sound nil n
    refine ⟨fun t d x y ux uy b k h hb hx hy hk w => ?_, fun fs ds xs ys uxs uys b k h hb hx hy hk w => ?_⟩
    · obtain ⟨k, rfl⟩ : ∃ j, k = j + 1 := ⟨k - 1, by omega⟩
      simp only [eqDesc] at h
      split at h
      · rename_i ht; cases h
        cases x <;> cases y <;> simp only [eqV, Option.some.injEq, reduceCtorEq] at hb
        cases hx; cases hy; subst hb
        rw [Op.equalIn, Sem.run_bind, run_under ht]; rfl
      · rename_i ht; cases h
        cases x <;> cases y <;> simp only [eqV, reduceCtorEq] at hb
        cases hx; cases hy
        split at hb
        · rename_i hk; cases hb
          subst hk
          rw [run_equalIn_int w k t _ _ _ _ ht, int_beq]
        · cases hb
      · rename_i ht; cases h
        cases x <;> cases y <;> simp only [eqV, Option.some.injEq, reduceCtorEq] at hb
        cases hx with | str ha => cases hy with | str hb' =>
        subst hb
        rw [← str_beq ha hb', beq_toListBytes, run_equalIn_string w k t _ _ ht]
      · rename_i ht
        split at h
        · cases h
          cases x <;> cases y <;> simp only [eqV, Option.some.injEq, reduceCtorEq] at hb <;> subst hb <;> cases hx <;> cases hy <;> (rw [Op.equalIn, Sem.run_bind, run_under ht]; rfl)
        · cases h
      · rename_i ht
        split at h
        · cases h
          cases x <;> cases y <;> simp only [eqV, Option.some.injEq, reduceCtorEq] at hb <;> subst hb <;> cases hx <;> cases hy <;> (rw [Op.equalIn, Sem.run_bind, run_under ht]; rfl)
        · cases h
      · rename_i ht
        split at h
        · cases h
          cases x <;> cases y <;> simp only [eqV, Option.some.injEq, reduceCtorEq] at hb <;> subst hb <;> cases hx <;> cases hy <;> (rw [Op.equalIn, Sem.run_bind, run_under ht]; rfl)
        · cases h
      · rename_i ht
        split at h
        · cases h
          cases x <;> cases y <;> simp only [eqV, Option.some.injEq, reduceCtorEq] at hb <;> subst hb <;> cases hx <;> cases hy <;> (rw [Op.equalIn, Sem.run_bind, run_under ht]; rfl)
        · cases h
      · rename_i ht
        split at h
        · cases h
          cases x <;> cases y <;> simp only [eqV, Option.some.injEq, reduceCtorEq] at hb <;> subst hb <;> cases hx <;> cases hy <;> (rw [Op.equalIn, Sem.run_bind, run_under ht]; rfl)
        · cases h
      · rename_i fs ht
        split at h
        · cases h
        · rename_i hst
          simp only [Option.map_eq_some_iff] at h
          obtain ⟨ds, hds, rfl⟩ := h
          cases x <;> cases y <;> simp only [eqV, reduceCtorEq] at hb
          cases hx with | agg hx1 hx2 => cases hy with | agg hy1 hy2 =>
          have hf : P.fieldsOf t = fs := by simp [Program.fieldsOf, ht]
          rw [run_equalIn_struct w k t _ _ (by rw [hf]; exact ht) (by simpa using hst), hf]
          exact ih.2 _ _ _ _ _ _ _ k hds hb ⟨hx1, hx2⟩ ⟨hy1, hy2⟩ (by omega) w
      · cases h
    · cases fs with
      | nil =>
        simp only [eqDescs, Option.some.injEq] at h
        subst h
        simp only [eqsV, Option.some.injEq] at hb
        subst hb
        simp [Op.eqFields]
      | cons f fs =>
        simp only [eqDescs] at h
        split at h
        · cases h
        · rename_i hname
          split at h
          · rename_i s a d ds' h1 h2 h3 h4
            cases h
            simp only [eqsV] at hb
            split at hb
            · rename_i x y hrx hry
              obtain ⟨ux, hux, hvx⟩ := part_sound (P := P) h2 h1 hx hrx
              obtain ⟨uy, huy, hvy⟩ := part_sound (P := P) h2 h1 hy hry
              split at hb
              · rename_i he
                have e1 := ih.1 _ _ _ _ _ _ _ k h3 he hvx hvy (by omega) w
                simp only [Op.eqFields, ne_eq, hname, not_false_eq_true, if_true, Sem.run_bind, hux, huy, Result.andThen_ok, e1, Bool.not_true, Bool.false_eq_true, if_false]
                exact ih.2 _ _ _ _ _ _ _ k h4 hb hx hy (by omega) w
              · rename_i he
                cases hb
                have e1 := ih.1 _ _ _ _ _ _ _ k h3 he hvx hvy (by omega) w
                simp only [Op.eqFields, ne_eq, hname, not_false_eq_true, if_true, Sem.run_bind, hux, huy, Result.andThen_ok, e1, Bool.not_false, Sem.run_pure]
              · cases hb
            · cases hb
          · cases h

end
end Go.Proofs.YtjjgiigbhjfkaaaGreatDoor.Am

namespace Go.Proofs.YtjjgiigbhjfkaaaGreatDoor.Am
open Go

section
variable {K : CodeR} {F : Frz} {r : Loc} {m : Mem} {w : World} {P : Program} {G : Glob}

theorem run_eqGuard {op : BinOp} {t : TypeId} {px py : Operand} {a b : Value} (h1 : a = .nilIface → (isK px || isK py) = true)
    (h2 : ∀ cs, a = .agg cs → P.eqGuardType P.depth t = false) : (eqGuard op t px py a b).run P w = .ok () w := by
  have hk : a = .nilIface → b = .nilIface → (eqGuard op t px py a b).run P w = .ok () w := by
    rintro rfl rfl
    have := h1 rfl
    cases px <;> cases py <;> first | (cases op <;> rfl) | (simp [isK] at this)
  have hg : ∀ cs ds, a = .agg cs → b = .agg ds → (eqGuard op t px py a b).run P w = .ok () w := by
    rintro cs ds rfl rfl
    have := h2 _ rfl
    cases op <;> first | rfl | (simp [eqGuard, this])
  cases a <;> first
    | (cases op <;> rfl)
    | (cases b <;> first | (cases op <;> rfl) | exact hk rfl rfl | exact hg _ _ rfl rfl)

theorem binOp_eql {t : TypeId} {d : EqD} {x y : V} {ux uy : Value} {b : Bool} (h : eqV d x y = some b) (h1 : d ≠ .int) (h2 : d ≠ .str) (hx : VR F r x ux) (_hy : VR F r y uy) :
    binOp .eql t ux uy = (do pure (.bool (← Op.equal t ux uy))) ∧ binOp .neq t ux uy = (do pure (.bool (!(← Op.equal t ux uy)))) := by
  have hne : ∀ (k : IntKind) (n : Int), ux ≠ .int k n := by
    rintro k n rfl
    cases hx
    cases d <;> simp_all [eqV]
  have hns : ∀ s, ux ≠ .string s := by
    rintro s rfl
    cases hx
    cases d <;> simp_all [eqV]
  cases ux <;> first
    | exact absurd rfl (hne _ _)
    | exact absurd rfl (hns _)
    | exact ⟨rfl, rfl⟩
    | cases hx

theorem eqd_sound {op : BinOp} {neg nil : Bool} {t : TypeId} {d : EqD} {x y : V} {ux uy : Value} {b : Bool} {px py : Operand} (hs : Sim K F r m w)
    (hop : (neg = false ∧ op = .eql) ∨ (neg = true ∧ op = .neq)) (hd : eqDesc P nil 50 t = some d) (h1 : d ≠ .int) (h2 : d ≠ .str)
    (hg1 : d = .iface → (isK px || isK py) = true) (hg2 : ∀ ds, d = .struct ds → P.eqGuardType P.depth t = false)
    (hb : eqV d x y = some b) (hx : VR F r x ux) (hy : VR F r y uy) :
    OpS K P F r m w (do eqGuard op t px py ux uy; binOp op t ux uy) (.bool (if neg then !b else b)) m := by
  have he := (eqV_sound nil 50).1 t d x y ux uy b Op.maxDepth hd hb hx hy (by decide) w
  obtain ⟨e1, e2⟩ := binOp_eql (t := t) hb h1 h2 hx hy
  have hguard : (eqGuard op t px py ux uy).run P w = .ok () w := by
    apply run_eqGuard
    · rintro rfl
      cases hx
      apply hg1
      cases d <;> simp_all [eqV]
    · rintro cs rfl
      cases hx
      cases d <;> simp_all [eqV]
  rcases hop with ⟨rfl, rfl⟩ | ⟨rfl, rfl⟩
  · refine OpS.pure hs (u := .bool b) ?_ .bool
    simp only [Sem.run_bind, hguard, Result.andThen_ok, e1, Op.equal, he, Sem.run_pure]
  · refine OpS.pure hs (u := .bool !b) ?_ .bool
    simp only [Sem.run_bind, hguard, Result.andThen_ok, e2, Op.equal, he, Sem.run_pure]

theorem conv_sound {s d : TypeId} {k k' : IntKind} {x : V} {n : Int} {u : Value} (hs : Sim K F r m w) (h1 : P.underlying s = some (.int k')) (h2 : P.underlying d = some (.int k))
    (h : asN x = some n) (hx : VR F r x u) : OpS K P F r m w (convert s d u) (.int k (k.wrap n)) m := by
  cases x <;> simp only [asN, Option.some.injEq, reduceCtorEq] at h
  subst h
  cases hx
  refine OpS.pure hs ?_ .int
  simp only [convert, Sem.run_bind, run_under h1, run_under h2, Result.andThen_ok, Conv.intToInt, Sem.run_pure]

theorem same_sound {s d : TypeId} {x : List Nat} {u : Value} (hs : Sim K F r m w) (h1 : P.underlying s = some .string) (h2 : P.underlying d = some .string)
    (hx : VR F r (.str x) u) : OpS K P F r m w (convert s d u) (.str x) m := by
  cases hx with | str h =>
  refine OpS.pure hs ?_ (.str h)
  simp only [convert, Sem.run_bind, run_under h1, run_under h2, Result.andThen_ok, Sem.run_pure]

theorem under_int_ty {t : TypeId} {k : IntKind} {d} (h : P.underlying t = some (.int k)) (h' : P.underlying t = some d) : d = .int k := by rw [h] at h'; cases h'; rfl

theorem mkif_sound {t : TypeId} {x : V} {u : Value} {d : TypeDesc} (hs : Sim K F r m w) (hd : P.underlying t = some d) (hi : ∀ ms, d ≠ .interface ms) (hx : VR F r x u) :
    OpS K P F r m w (Instr.makeInterface t u) (.iface t x) m := by
  refine OpS.pure hs ?_ (.iface hx)
  simp only [Instr.makeInterface, Sem.run_bind, run_under hd, Result.andThen_ok]
  cases d <;> first | rfl | exact absurd rfl (hi _)

theorem mkmap_sound {t : TypeId} (hs : Sim K F r m w) : OpS K P F r m w (Instr.makeMap t none) (.mp m.size) (m.push (.map [] 0)) := by
  refine ⟨_, _, F, _, ?_, hs.push (N := 0) (o := .map #[] 0) (.map rfl fun i h => by cases h), hs.st_push _ _ _, .mp (Loc.put_same ..)⟩
  simp [Instr.makeMap]

theorem mksl_sound {t e : TypeId} {zs : List V} {by_ : Nat} {l c : Int} {xl xc : V} {ul uc : Value} (hs : Sim K F r m w) (hd : P.underlying t = some (.slice e)) (hz : zerosT P e = some zs)
    (hbt : bytesT P e = some by_) (hl : asN xl = some l) (hc : asN xc = some c) (hxl : VR F r xl ul) (hxc : VR F r xc uc)
    (h : 0 ≤ l ∧ l ≤ c ∧ by_ * c ≤ 2 ^ 48 ∧ c < 2 ^ 60) :
    OpS K P F r m w (Instr.makeSlice t ul uc) (.sl m.size 0 l.toNat zs.length (some c.toNat)) (m.push (.cells e (List.replicate c.toNat zs).flatten false)) := by
  obtain ⟨u, h1, h2, hsz⟩ := zerosT_sound hz
  obtain ⟨hl0, hlc, hb, hc60⟩ := h
  cases xl <;> simp only [asN, Option.some.injEq, reduceCtorEq] at hl
  cases xc <;> simp only [asN, Option.some.injEq, reduceCtorEq] at hc
  subst hl hc
  cases hxl; cases hxc
  rename_i kl l kc c
  have hzs := zeros_sound (h2 F r) c.toNat
  have hrs := newRow_sound (P := P) (e := e) hs hzs
  obtain ⟨hrun, hsim⟩ := hrs
  have hcsz : zs.length = u.cells.size := (h2 F r).1
  have wl : IntKind.i64.wrap l = l := by
    simp only [IntKind.wrap, IntKind.bits, IntKind.signed]; simp; omega
  have wc : IntKind.i64.wrap c = c := by
    simp only [IntKind.wrap, IntKind.bits, IntKind.signed]; simp; omega
  unfold bytesT at hbt
  simp only [Option.map_eq_some_iff] at hbt
  obtain ⟨i, hi, rfl⟩ := hbt
  refine ⟨_, _, F, _, ?_, hsim, hs.st_push _ _ _, .sl (k := c.toNat) (Loc.put_same ..) (.inl rfl) (by simp [hcsz]) (by omega) (fun k hk => by cases hk; rfl)⟩
  have hti : (typeInfo e).run P w = .ok i w := by simp [typeInfo, hi]
  simp only [Instr.makeSlice, Sem.run_bind, run_under hd, Result.andThen_ok, asInt, asIntOf, Sem.run_pure, hti, wl, wc]
  have hcond : ((decide (c < 0) || decide ((i.bytes : Int) * c > 2 ^ 48)) || decide (l < 0) || decide (l > c)) = false := by
    simp; omega
  rw [if_neg (by simpa using hcond)]
  simp only [Sem.run_bind, run_askRoom, Result.andThen_ok, run_sizeOf hsz]
  by_cases h0 : c.toNat * zs.length = 0
  · simp only [h0, if_true, Sem.run_pure, Sem.run_bind, Result.andThen_ok]
    have hr0 : (Array.range 0).map (fun i => (#[] : Array Value)[i % (#[] : Array Value).size]!) = (Array.range (c.toNat * u.cells.size)).map (fun i => u.cells[i % u.cells.size]!) := by
      rw [← hcsz, h0]; simp
    rw [hr0]
    simp only [hrun, Result.andThen_ok]
  · simp only [h0, if_false, h1, Sem.run_pure, Sem.run_bind, Result.andThen_ok]
    rw [hcsz]
    simp only [hrun, Result.andThen_ok]

end
end Go.Proofs.YtjjgiigbhjfkaaaGreatDoor.Am

namespace Go.Proofs.YtjjgiigbhjfkaaaGreatDoor.Am
open Go

section
variable {K : CodeR} {F : Frz} {r : Loc} {m : Mem} {w : World} {P : Program} {G : Glob}

theorem faddr_sound {s : TypeId} {fs : Array Field} {i n : Nat} {fl : Field} {x v : V} {u : Value} (hs : Sim K F r m w) (hd : P.underlying s = some (.struct fs))
    (hf : fs[i]? = some fl) (hn : sizeT P fl.type = some n) (hn0 : n ≠ 0) (hx : VR F r x u)
    (h : (match (generalizing := false) x with | .ptr c o => some (.ptr c (o + fl.offset)) | .fp cs o => some (.fp cs (o + fl.offset)) | _ => none) = some v) :
    OpS K P F r m w (Instr.fieldAt s u i) v m := by
  have hp : ∀ a : Addr, (fieldPlace a fl).run P w = .ok (a.add fl.offset) w := by
    intro a
    simp only [fieldPlace, Sem.run_bind, run_sizeOf hn, Result.andThen_ok, hn0, if_false, Sem.run_pure]
  cases hx <;> simp only [Option.some.injEq, reduceCtorEq] at h <;> subst h
  · rename_i hr
    refine OpS.pure hs ?_ (.ptr hr)
    simp only [Instr.fieldAt, Sem.run_bind, run_under hd, Result.andThen_ok, hf, Instr.sureAddr, Sem.run_pure, hp, addr_add]
  · rename_i h1 h2 h3
    refine OpS.pure hs ?_ (.fp h1 h2 h3)
    simp only [Instr.fieldAt, Sem.run_bind, run_under hd, Result.andThen_ok, hf, Instr.sureAddr, Sem.run_pure, hp, addr_add, Nat.add_assoc]

theorem fld_sound {s : TypeId} {fs : Array Field} {i n : Nat} {agg : Bool} {fl : Field} {cs : List V} {v : V} {u : Value} (hs : Sim K F r m w) (hd : P.underlying s = some (.struct fs))
    (hf : fs[i]? = some fl) (hn : sizeT P fl.type = some n) (ha : aggT P fl.type = some agg) (hx : VR F r (.agg cs) u) (h : rd agg n cs fl.offset = some v) :
    OpS K P F r m w (Instr.field s u i) v m := by
  cases hx with | agg h1 h2 =>
  obtain ⟨u, hu, hv⟩ := part_sound (P := P) ha hn ⟨h1, h2⟩ h
  refine OpS.pure hs ?_ hv
  simp only [Instr.field, Sem.run_bind, run_under hd, Result.andThen_ok, hf, asAgg, Sem.run_pure, hu]

theorem asN_sound {i : V} {n : Int} {u : Value} (h : asN i = some n) (hi : VR F r i u) : ∃ k, u = .int k n := by
  cases i <;> simp only [asN, Option.some.injEq, reduceCtorEq] at h
  subst h
  cases hi
  exact ⟨_, rfl⟩

theorem iadr_slice {t e : TypeId} {esz : Nat} {x i v : V} {ux ui : Value} (hs : Sim K F r m w) (hd : P.underlying t = some (.slice e)) (hn : sizeT P e = some esz)
    (hx : VR F r x ux) (hi : VR F r i ui) (h : addrIx none esz x i = some v) : OpS K P F r m w (Instr.indexAt t ux ui) v m := by
  unfold addrIx at h
  split at h
  · cases h
  · rename_i n hni
    obtain ⟨k, rfl⟩ := asN_sound hni hi
    split at h <;> try (simp_all; done)
    · rename_i c off len esz' cap _
      split at h
      · rename_i hc
        obtain ⟨rfl, h0, h1⟩ := hc
        cases h
        cases hx with | sl hr ho hle hlk hcap =>
        rename_i off' b N kk
        have : off' = off := by
          rcases ho with e | e
          · exact e
          · omega
        subst this
        refine OpS.pure hs ?_ (.ptr hr)
        simp only [Instr.indexAt, asIntOf, Sem.run_bind, Sem.run_pure, Result.andThen_ok, run_under hd]
        rw [if_pos ⟨h0, h1⟩]
        simp only [Sem.run_bind, run_sizeOf hn, Result.andThen_ok, Sem.run_pure, addr_add]
      · cases h
    · rename_i cs len clip _
      split at h
      · rename_i hc
        obtain ⟨hlen, h0, h1⟩ := hc
        cases h
        cases hx with | lst hF hl hcs hlk hclip =>
        rename_i b o kk C
        refine OpS.pure hs ?_ (.fp hF hl hcs)
        simp only [Instr.indexAt, asIntOf, Sem.run_bind, Sem.run_pure, Result.andThen_ok, run_under hd]
        rw [if_pos ⟨h0, h1⟩]
        simp only [Sem.run_bind, run_sizeOf hn, Result.andThen_ok, Sem.run_pure, addr_add]
      · cases h

theorem iadr_array {t e : TypeId} {esz len : Nat} {x i v : V} {ux ui : Value} (hs : Sim K F r m w) (hd : P.underlying t = some (.array len e)) (hn : sizeT P e = some esz)
    (hx : VR F r x ux) (hi : VR F r i ui) (h : addrIx (some len) esz x i = some v) : OpS K P F r m w (Instr.indexAt t ux ui) v m := by
  unfold addrIx at h
  split at h
  · cases h
  · rename_i n hni
    obtain ⟨k, rfl⟩ := asN_sound hni hi
    split at h <;> try (simp_all; done)
    · rename_i hh
      cases hh
      split at h
      · rename_i hc
        cases h
        cases hx with | ptr hr =>
        refine OpS.pure hs ?_ (.ptr hr)
        simp only [Instr.indexAt, asIntOf, Sem.run_bind, Sem.run_pure, Result.andThen_ok, run_under hd, Instr.sureAddr]
        rw [if_pos hc]
        simp only [Sem.run_bind, run_sizeOf hn, Result.andThen_ok, Sem.run_pure, addr_add]
      · cases h
    · rename_i hh
      cases hh
      split at h
      · rename_i hc
        cases h
        cases hx with | fp hF hl hcs =>
        refine OpS.pure hs ?_ (.fp hF hl hcs)
        simp only [Instr.indexAt, asIntOf, Sem.run_bind, Sem.run_pure, Result.andThen_ok, run_under hd, Instr.sureAddr]
        rw [if_pos hc]
        simp only [Sem.run_bind, run_sizeOf hn, Result.andThen_ok, Sem.run_pure, addr_add, Nat.add_assoc]
      · cases h

theorem ba_get {s : List Nat} {b : ByteArray} (h : b.data.toList.map UInt8.toNat = s) (i : Nat) : (b[i]?).map UInt8.toNat = s[i]? := by
  subst h
  rw [List.getElem?_map]
  congr 1
  simp only [Array.getElem?_toList]
  by_cases hi : i < b.size
  · rw [getElem?_pos b i hi, Array.getElem?_eq_getElem (by simpa using hi)]
    rfl
  · rw [getElem?_neg b i hi, Array.getElem?_eq_none (by simpa using hi)]
theorem ba_size {s : List Nat} {b : ByteArray} (h : b.data.toList.map UInt8.toNat = s) : b.size = s.length := by
  subst h; simp

theorem idxs_sound {t : TypeId} {s : List Nat} {i v : V} {n : Int} {ux ui : Value} (hs : Sim K F r m w) (hd : P.underlying t = some .string)
    (hx : VR F r (.str s) ux) (hi : VR F r i ui) (hn : asN i = some n) (h0 : 0 ≤ n) (h : (s[n.toNat]?).map natB = some v) :
    OpS K P F r m w (Instr.index t ux ui) v m := by
  obtain ⟨k, rfl⟩ := asN_sound hn hi
  cases hx with | str hb =>
  rename_i b
  rw [← ba_get hb] at h
  simp only [Option.map_map, Option.map_eq_some_iff] at h
  obtain ⟨x, hx, rfl⟩ := h
  refine OpS.pure hs ?_ .int
  simp only [Instr.index, asIntOf, Sem.run_bind, Sem.run_pure, Result.andThen_ok, run_under hd, h0, if_true, hx]

theorem idxa_sound {t e : TypeId} {ln esz : Nat} {agg : Bool} {cs : List V} {i v : V} {n : Int} {ux ui : Value} (hs : Sim K F r m w) (hd : P.underlying t = some (.array ln e))
    (ha : aggT P e = some agg) (hsz : sizeT P e = some esz) (hx : VR F r (.agg cs) ux) (hi : VR F r i ui) (hn : asN i = some n) (h0 : 0 ≤ n ∧ n < ln)
    (h : rd agg esz cs (n.toNat * esz) = some v) : OpS K P F r m w (Instr.index t ux ui) v m := by
  obtain ⟨k, rfl⟩ := asN_sound hn hi
  cases hx with | agg h1 h2 =>
  obtain ⟨u, hu, hv⟩ := part_sound (P := P) ha hsz ⟨h1, h2⟩ h
  refine OpS.pure hs ?_ hv
  simp only [Instr.index, asIntOf, Sem.run_bind, Sem.run_pure, Result.andThen_ok, run_under hd, h0, and_self, if_true, run_sizeOf hsz, hu]

theorem extr_sound {i : Nat} {vs : List V} {v : V} {u : Value} (hs : Sim K F r m w) (hx : VR F r (.tup vs) u) (h : vs[i]? = some v) :
    OpS K P F r m w (Instr.extract u i) v m := by
  cases hx with | tup h1 h2 =>
  obtain ⟨u, hu, hv⟩ := VRs.get ⟨h1, h2⟩ h
  exact OpS.pure hs (by simp only [Instr.extract, hu, Sem.run_pure]) hv

theorem mn_sound {ts : Array TypeId} {t : TypeId} {k k' : IntKind} {x y : Int} {ux uy : Value} (hs : Sim K F r m w) (hx : VR F r (.int k x) ux) (hy : VR F r (.int k' y) uy) :
    OpS K P F r m w (Builtin.min_ ts t #[ux, uy]) (.int k (if y < x then y else x)) m := by
  cases hx; cases hy
  exact OpS.pure hs (by simp [Builtin.min_, Builtin.min2]) .int
theorem mx_sound {ts : Array TypeId} {t : TypeId} {k k' : IntKind} {x y : Int} {ux uy : Value} (hs : Sim K F r m w) (hx : VR F r (.int k x) ux) (hy : VR F r (.int k' y) uy) :
    OpS K P F r m w (Builtin.max_ ts t #[ux, uy]) (.int k (if y > x then y else x)) m := by
  cases hx; cases hy
  exact OpS.pure hs (by simp [Builtin.max_, Builtin.max2]) .int

theorem len_str {ts : Array TypeId} {t t0 : TypeId} {s : List Nat} {u : Value} (hs : Sim K F r m w) (ht : ts[0]? = some t0) (hd : P.underlying t0 = some .string) (hx : VR F r (.str s) u) :
    OpS K P F r m w (Builtin.len_ ts t #[u]) (.int .i64 s.length) m := by
  cases hx with | str h =>
  refine OpS.pure hs ?_ .int
  simp [Builtin.len_, ht, run_under hd, goInt, ba_size h]
theorem len_sl {ts : Array TypeId} {t t0 e : TypeId} {x v : V} {u : Value} (hs : Sim K F r m w) (ht : ts[0]? = some t0) (hd : P.underlying t0 = some (.slice e)) (hx : VR F r x u)
    (h : lenV m .sl x = some v) : OpS K P F r m w (Builtin.len_ ts t #[u]) v m := by
  cases x <;> simp only [lenV, Option.some.injEq, reduceCtorEq] at h <;> subst h <;> cases hx <;>
    exact OpS.pure hs (by simp [Builtin.len_, ht, run_under hd, goInt]) .int
theorem len_const {ts : Array TypeId} {t t0 e : TypeId} {n : Nat} {u : Value} (hs : Sim K F r m w) (ht : ts[0]? = some t0) (hd : P.underlying t0 = some (.array n e)) :
    OpS K P F r m w (Builtin.len_ ts t #[u]) (.int .i64 n) m := by
  refine OpS.pure hs ?_ .int
  simp only [Builtin.len_, ht, List.getElem?_toArray, List.getElem?_cons_zero, Sem.run_bind, run_under hd, Result.andThen_ok]
  cases u <;> rfl
theorem len_ptr {ts : Array TypeId} {t t0 a e : TypeId} {n : Nat} {u : Value} (hs : Sim K F r m w) (ht : ts[0]? = some t0) (hd : P.underlying t0 = some (.pointer a))
    (hd' : P.underlying a = some (.array n e)) : OpS K P F r m w (Builtin.len_ ts t #[u]) (.int .i64 n) m := by
  refine OpS.pure hs ?_ .int
  simp only [Builtin.len_, ht, List.getElem?_toArray, List.getElem?_cons_zero, Sem.run_bind, run_under hd, Result.andThen_ok]
  cases u <;> simp only [run_under hd', Result.andThen_ok] <;> rfl
theorem len_map {ts : Array TypeId} {t t0 k e : TypeId} {x v : V} {u : Value} (hs : Sim K F r m w) (ht : ts[0]? = some t0) (hd : P.underlying t0 = some (.map k e)) (hx : VR F r x u)
    (h : lenV m .map x = some v) : OpS K P F r m w (Builtin.len_ ts t #[u]) v m := by
  cases x <;> simp only [lenV, Option.some.injEq, reduceCtorEq] at h
  · subst h; cases hx
    exact OpS.pure hs (by simp [Builtin.len_, ht, run_under hd, goInt]) .int
  · rename_i c
    cases hx with | mp hr =>
    split at h
    · rename_i es clock hc
      cases h
      obtain ⟨b, N, o, h1, h2, h3, _⟩ := hs.obj _ _ hc
      rw [hr] at h1; cases h1
      cases h3 with | map g1 g2 =>
      refine OpS.pure hs ?_ .int
      simp [Builtin.len_, ht, run_under hd, goInt, getObj, Sem.run, h2, g1]
    · cases h

end
end Go.Proofs.YtjjgiigbhjfkaaaGreatDoor.Am

namespace Go.Proofs.YtjjgiigbhjfkaaaGreatDoor.Am
open Go

section
variable {K : CodeR} {F : Frz} {r : Loc} {m : Mem} {w : World} {P : Program} {G : Glob}

def VRo (F : Frz) (r : Loc) : Option V → Option Value → Prop
  | none, none => True
  | some v, some u => VR F r v u
  | _, _ => False

theorem bnd_sound {y : Nat} {v : V} {n : Nat} {u : Value} {y' : Nat} {c : BoundsCode} (h : bnd y v = some n) (hv : VR F r v u) (hy : y ≤ y') :
    (∀ w, (Instr.sliceBound u y' c).run P w = .ok n w) ∧ n ≤ y := by
  cases v <;> simp only [bnd, reduceCtorEq] at h
  split at h
  · rename_i hc
    cases h
    cases hv
    refine ⟨fun w => ?_, by omega⟩
    simp only [Instr.sliceBound, asIntOf, Sem.run_bind, Sem.run_pure, Result.andThen_ok]
    rw [if_pos ⟨hc.1, by omega⟩]
    rfl
  · cases h

/-- The bounds of a slice expression without a third one. -/
theorem bnds_sound {isS : Bool} {len cap : Nat} {lo hi : Option V} {ulo uhi : Option Value} {l h : Nat} (hb : bnds len lo hi = some (l, h))
    (hlo : VRo F r lo ulo) (hhi : VRo F r hi uhi) (hlen : len ≤ cap) :
    (∀ w, (Instr.sliceBounds isS len cap ulo uhi none).run P w = .ok (l, h, cap) w) ∧ l ≤ h ∧ h ≤ len := by
  unfold bnds at hb
  split at hb
  · cases hb
  · rename_i hh he
    split at hb
    · cases hb
    · rename_i ll he'
      cases hb
      have L : ∀ (h : Nat), lob h lo = some l → (∀ v u, lo = some v → ulo = some u →
          ∀ w, (Instr.sliceBound u h .sliceB).run P w = .ok l w) ∧ l ≤ h := by
        intro h he'
        cases lo <;> cases ulo <;> simp only [VRo] at hlo
        · simp only [lob, Option.some.injEq] at he'; subst he'
          exact ⟨fun v u h => (by cases h), Nat.zero_le _⟩
        · obtain ⟨h1, h2⟩ := bnd_sound (P := P) (c := .sliceB) he' hlo (Nat.le_refl _)
          exact ⟨fun v u e1 e2 w => by cases e1; cases e2; exact h1 w, h2⟩
      obtain ⟨L1, L2⟩ := L h he'
      cases hi <;> cases uhi <;> simp only [VRo] at hhi
      · simp only [hib, Option.some.injEq] at he; subst he
        refine ⟨fun w => ?_, L2, Nat.le_refl _⟩
        cases lo <;> cases ulo <;> simp only [VRo] at hlo
        · simp only [lob, Option.some.injEq] at he'; subst he'
          simp [Instr.sliceBounds]
        · have := L1 _ _ rfl rfl w
          simp [Instr.sliceBounds, this]
      · obtain ⟨H, hh1⟩ := bnd_sound (P := P) (c := if isS then .sliceAcap else .sliceAlen) he hhi hlen
        refine ⟨fun w => ?_, L2, hh1⟩
        have Hw := H w
        cases lo <;> cases ulo <;> simp only [VRo] at hlo
        · simp only [lob, Option.some.injEq] at he'; subst he'
          simp [Instr.sliceBounds, Hw]
        · have := L1 _ _ rfl rfl w
          simp [Instr.sliceBounds, Hw, this]

/-- The bounds with a third one. -/
theorem bnds3_sound {len cap mm : Nat} {lo : Option V} {vh vm : V} {ulo : Option Value} {uh um : Value} {l h : Nat} (hm : bnd len vm = some mm) (hb : bnds mm lo (some vh) = some (l, h))
    (hlo : VRo F r lo ulo) (hhi : VR F r vh uh) (hum : VR F r vm um) (hlen : len ≤ cap) :
    (∀ w, (Instr.sliceBounds true len cap ulo (some uh) (some um)).run P w = .ok (l, h, mm) w) ∧ l ≤ h ∧ h ≤ mm ∧ mm ≤ len := by
  obtain ⟨M, hmm⟩ := bnd_sound (P := P) (c := .slice3Acap) hm hum hlen
  unfold bnds at hb
  simp only [hib] at hb
  split at hb
  · cases hb
  · rename_i hh he
    obtain ⟨H, hh1⟩ := bnd_sound (P := P) (c := .slice3B) he hhi (Nat.le_refl _)
    split at hb
    · cases hb
    · rename_i ll he'
      cases hb
      cases lo <;> cases ulo <;> simp only [VRo] at hlo
      · simp only [lob, Option.some.injEq] at he'; subst he'
        refine ⟨fun w => ?_, Nat.zero_le _, hh1, hmm⟩
        have := M w
        have := H w
        simp [Instr.sliceBounds, *]
      · obtain ⟨h1, h2⟩ := bnd_sound (P := P) (c := .slice3C) he' hlo (Nat.le_refl _)
        refine ⟨fun w => ?_, h2, hh1, hmm⟩
        have := M w
        have := H w
        have := h1 w
        simp [Instr.sliceBounds, *]

theorem ba_extract {s : List Nat} {b : ByteArray} (hb : b.data.toList.map UInt8.toNat = s) (l h : Nat) :
    (b.extract l h).data.toList.map UInt8.toNat = (s.drop l).take (h - l) := by
  subst hb
  rw [ByteArray.data_extract, Array.toList_extract]
  simp [List.extract_eq_take_drop]

theorem slice_str {t : TypeId} {s : List Nat} {lo hi : Option V} {ulo uhi : Option Value} {l h : Nat} {u : Value} (hs : Sim K F r m w) (hd : P.underlying t = some .string)
    (hx : VR F r (.str s) u) (hlo : VRo F r lo ulo) (hhi : VRo F r hi uhi) (hb : bnds s.length lo hi = some (l, h)) :
    OpS K P F r m w (Instr.sliceAt t u ulo uhi none) (.str ((s.drop l).take (h - l))) m := by
  cases hx with | str hx =>
  rename_i b
  have hsz := ba_size hx
  obtain ⟨H, _, _⟩ := bnds_sound (P := P) (isS := false) (cap := b.size) hb hlo hhi (by omega)
  rw [← hsz] at H
  refine OpS.pure hs ?_ (.str (ba_extract hx l h))
  simp only [Instr.sliceAt, Instr.slice, Sem.run_bind, run_under hd, Result.andThen_ok, Option.isSome_none, Bool.false_eq_true, if_false, Sem.run_pure, H]

theorem slice_sl {t e : TypeId} {esz : Nat} {x v : V} {lo hi mx : Option V} {ulo uhi umx : Option Value} {u : Value} (hs : Sim K F r m w) (hd : P.underlying t = some (.slice e))
    (hsz : sizeT P e = some esz) (hx : VR F r x u) (hlo : VRo F r lo ulo) (hhi : VRo F r hi uhi) (hmx : VRo F r mx umx) (hv : sliceV .sl esz x lo hi mx = some v) :
    OpS K P F r m w (Instr.sliceAt t u ulo uhi umx) v m := by
  have go : ∀ (a : Option Addr) (len cap : Nat) (l h mm : Nat), u = .slice a len cap → (∀ w, (Instr.sliceBounds true len cap ulo uhi umx).run P w = .ok (l, h, mm) w) →
      (Instr.sliceAt t u ulo uhi umx).run P w = .ok (.slice (if mm = l then a else a.map (·.add (l * esz))) (h - l) (mm - l)) w := by
    rintro a len cap l h mm rfl hb
    simp only [Instr.sliceAt, Instr.slice, Sem.run_bind, run_under hd, Result.andThen_ok, hb, run_sizeOf hsz, Sem.run_pure]
  cases x <;> simp only [sliceV, reduceCtorEq] at hv
  · -- nil
    cases hx
    split at hv
    · rename_i lh hb
      obtain ⟨l, h⟩ := lh
      cases hv
      cases umx <;> simp only [VRo] at hmx
      obtain ⟨H, h1, h2⟩ := bnds_sound (P := P) (isS := true) (cap := 0) hb hlo hhi (Nat.le_refl _)
      refine OpS.pure hs (go _ _ _ _ _ _ rfl H) ?_
      have hl : l = 0 := by omega
      have hh : h = 0 := by omega
      subst hl hh
      exact .nils
    · rename_i lh vm hb
      obtain ⟨l, h⟩ := lh
      split at hv
      · rename_i n hn
        cases umx <;> simp only [VRo] at hmx
        cases hi <;> simp only [reduceCtorEq, Option.some.injEq] at hv
        subst hv
        cases uhi <;> simp only [VRo] at hhi
        have hn0 : n = 0 := Nat.le_zero.1 (bnd_sound (P := P) (c := .index) hn hmx (Nat.le_refl _)).2
        subst hn0
        obtain ⟨H, h1, h2, h3⟩ := bnds3_sound (P := P) (cap := 0) hn hb hlo hhi hmx (Nat.le_refl _)
        refine OpS.pure hs (go _ _ _ _ _ _ rfl H) ?_
        have hl : l = 0 := by omega
        have hh : h = 0 := by omega
        subst hl hh
        exact .nils
      · cases hv
    · cases hv
  · rename_i c off len esz' cap
    split at hv
    · rename_i he
      subst he
      cases hx with | sl hr ho hle hlk hcap =>
      rename_i off' b N k
      split at hv
      · cases umx <;> simp only [VRo] at hmx
        split at hv
        · rename_i l h hb
          cases hv
          obtain ⟨H, h1, h2⟩ := bnds_sound (P := P) (isS := true) (cap := k) hb hlo hhi hlk
          refine OpS.pure hs (go _ _ _ _ _ _ rfl H) ?_
          by_cases hkl : k = l
          · subst hkl
            simp only [if_true, Nat.sub_self]
            have : h - k = 0 := by omega
            rw [this]
            refine .sl (b := b) (N := N) hr (.inr rfl) (by omega) (Nat.le_refl _) (fun q hq => ?_)
            cases cap <;> simp at hq
            have := hcap _ rfl
            omega
          · rw [if_neg hkl]
            simp only [Option.map_some, addr_add]
            have ho' : off' = off := by
              rcases ho with e | e
              · exact e
              · omega
            subst ho'
            refine .sl hr (.inl rfl) ?_ (by omega) (fun q hq => ?_)
            · have : l * esz' + (k - l) * esz' = k * esz' := by rw [← Nat.add_mul]; congr 1; omega
              omega
            · cases cap <;> simp at hq
              have := hcap _ rfl
              omega
        · cases hv
      · rename_i vm
        cases umx <;> simp only [VRo] at hmx
        split at hv
        · rename_i mm vh hm
          cases uhi <;> simp only [VRo] at hhi
          split at hv
          · rename_i l h hb
            cases hv
            obtain ⟨H, h1, h2, h3⟩ := bnds3_sound (P := P) (cap := k) hm hb hlo hhi hmx hlk
            refine OpS.pure hs (go _ _ _ _ _ _ rfl H) ?_
            by_cases hkl : mm = l
            · subst hkl
              simp only [if_true, Nat.sub_self]
              have : h - mm = 0 := by omega
              rw [this]
              exact .sl (b := b) (N := N) hr (.inr rfl) (by have : mm * esz' ≤ k * esz' := Nat.mul_le_mul_right _ (by omega); omega) (Nat.le_refl _) (fun q hq => by cases hq; rfl)
            · rw [if_neg hkl]
              simp only [Option.map_some, addr_add]
              have ho' : off' = off := by
                rcases ho with e | e
                · exact e
                · omega
              subst ho'
              refine .sl hr (.inl rfl) ?_ (by omega) (fun q hq => by cases hq; rfl)
              have e1 : l * esz' + (mm - l) * esz' = mm * esz' := by rw [← Nat.add_mul]; congr 1; omega
              have e2 : mm * esz' ≤ k * esz' := Nat.mul_le_mul_right _ (by omega)
              omega
          · cases hv
        · cases hv
    · cases hv
  · rename_i cs len clip
    split at hv
    · rename_i hlen
      cases hx with | lst hF hl hcs hlk hclip =>
      rename_i b o k C
      have win : ∀ l h, l ≤ h → h ≤ len → (l * esz + (h - l) * esz ≤ cs.length) := by
        intro l h h1 h2
        rw [← Nat.add_mul, hlen]
        exact Nat.mul_le_mul_right _ (by omega)
      have mk : ∀ l h mm clip', l ≤ h → h ≤ len → h ≤ mm → (clip' = true → mm = h) →
          VR F r (.lst ((cs.drop (l * esz)).take ((h - l) * esz)) (h - l) clip') (.slice (if mm = l then some ⟨b, o, none⟩ else some ⟨b, o + l * esz, none⟩) (h - l) (mm - l)) := by
        intro l h mm clip' h1 h2 h3 hcl
        have hw := Win.take_drop (F := F) (r := nowhere) ⟨hl, hcs⟩ (win l h h1 h2)
        split
        · rename_i e
          have e0 : h - l = 0 := by omega
          rw [e0]
          simp only [Nat.zero_mul, List.take_zero]
          exact .lst hF (by simp; omega) (fun i hi => by simp at hi) (by omega) (fun hc => by omega)
        · exact .lst hF hw.1 hw.2 (by omega) (fun hc => by have := hcl hc; omega)
      split at hv
      · cases umx <;> simp only [VRo] at hmx
        split at hv
        · rename_i l h hb
          cases hv
          obtain ⟨H, h1, h2⟩ := bnds_sound (P := P) (isS := true) (cap := k) hb hlo hhi hlk
          refine OpS.pure hs (go _ _ _ _ _ _ rfl H) ?_
          have := mk l h k false h1 h2 (by omega) (fun hc => by cases hc)
          simpa only [Option.map_some, addr_add] using this
        · cases hv
      · rename_i vm
        cases umx <;> simp only [VRo] at hmx
        split at hv
        · rename_i mm vh hm
          cases uhi <;> simp only [VRo] at hhi
          split at hv
          · rename_i l h hb
            cases hv
            obtain ⟨H, h1, h2, h3⟩ := bnds3_sound (P := P) (cap := k) hm hb hlo hhi hmx hlk
            refine OpS.pure hs (go _ _ _ _ _ _ rfl H) ?_
            have := mk l h mm (decide (h = mm)) h1 (by omega) h2 (fun hc => by have := of_decide_eq_true hc; omega)
            simpa only [Option.map_some, addr_add] using this
          · cases hv
        · cases hv
    · cases hv

theorem slice_arr {t e : TypeId} {n esz : Nat} {x v : V} {lo hi mx : Option V} {ulo uhi umx : Option Value} {u : Value} (hs : Sim K F r m w) (hd : P.underlying t = some (.array n e))
    (hsz : sizeT P e = some esz) (hx : VR F r x u) (hlo : VRo F r lo ulo) (hhi : VRo F r hi uhi) (hmx : VRo F r mx umx) (hv : sliceV (.arr n) esz x lo hi mx = some v)
    (hroom : ∀ c off b N, x = .ptr c off → r c = some (b, N) → off + n * esz ≤ N) :
    OpS K P F r m w (Instr.sliceAt t u ulo uhi umx) v m := by
  cases x <;> simp only [sliceV, reduceCtorEq] at hv
  rename_i c off
  split at hv
  · rename_i l h hb
    cases hv
    cases umx <;> simp only [VRo] at hmx
    cases hx with | ptr hr =>
    rename_i b N
    obtain ⟨H, h1, h2⟩ := bnds_sound (P := P) (isS := false) (cap := n) hb hlo hhi (Nat.le_refl _)
    refine OpS.pure hs (u := .slice (some (if n = l then ⟨b, off, none⟩ else (Addr.mk b off none).add (l * esz))) (h - l) (n - l)) ?_ ?_
    · simp only [Instr.sliceAt, Sem.run_bind, run_under hd, Result.andThen_ok, Instr.sureAddr, Sem.run_pure, H, run_sizeOf hsz]
    · have := hroom c off b N rfl hr
      by_cases hkl : n = l
      · rw [if_pos hkl]
        subst hkl
        exact .sl hr (.inr (by omega)) (by simp; omega) (by omega) (fun q hq => by cases hq; rfl)
      · rw [if_neg hkl, addr_add]
        refine .sl hr (.inl rfl) ?_ (by omega) (fun q hq => by cases hq; rfl)
        have e1 : l * esz + (n - l) * esz = n * esz := by rw [← Nat.add_mul]; congr 1; omega
        omega
  · cases hv

end
end Go.Proofs.YtjjgiigbhjfkaaaGreatDoor.Am

namespace Go.Proofs.YtjjgiigbhjfkaaaGreatDoor.Am
open Go

section
variable {K : CodeR} {F : Frz} {r : Loc} {m : Mem} {w : World} {P : Program} {G : Glob}

theorem Win.take {cs : List V} {C : Array Value} {o n : Nat} (h : Win F r cs C o) : Win F r (cs.take n) C o := by
  have := h.1
  refine ⟨by simp; omega, fun i a b => ?_⟩
  simp only [List.length_take] at a
  rw [List.getElem_take]
  exact h.2 i (by omega) b

theorem VRs.to_win {cs : List V} {us rest : Array Value} (h : VRs F r cs us) : Win F r cs (us ++ rest) 0 := by
  refine ⟨by simp [h.1], fun i a b => ?_⟩
  have ha : i < us.size := by rw [← h.1]; exact a
  simp only [Nat.zero_add, Array.getElem_append, ha, dif_pos]
  exact h.2 i a ha

theorem bytes_vrs {s : List Nat} {b : ByteArray} (h : b.data.toList.map UInt8.toNat = s) : VRs F r (s.map natB) (b.data.map fun x => .int .u8 x.toNat) := by
  subst h
  refine ⟨by simp, fun i a b => ?_⟩
  simp only [List.getElem_map, Array.getElem_map, natB, Array.getElem_toList]
  exact .int

/-- The elements that an append or a copy takes. -/
theorem srcCells_sound {esz n : Nat} {x : V} {new : List V} {u : Value} (hs : Sim K F r m w) (hx : VR F r x u) (h : srcCells m esz x = some (n, new)) :
    (∀ w, (Builtin.lenOf u).run P w = .ok n w) ∧ ∃ us, (Builtin.firstCells esz n u).run P w = .ok us w ∧ VRs F r new us ∧ us.size = n * esz := by
  cases x <;> simp only [srcCells, reduceCtorEq] at h
  · -- str
    split at h
    · rename_i he; cases h; subst he
      cases hx with | str hb =>
      rename_i s b
      have hsz := ba_size hb
      have hd : (b.extract 0 s.length) = b := by
        rw [← hsz]; exact ByteArray.extract_zero_size
      refine ⟨fun w => by simp [Builtin.lenOf, hsz], _, ?_, bytes_vrs hb, by simp only [Array.size_map, Nat.mul_one]; exact hsz⟩
      simp only [Builtin.firstCells, hd, Sem.run_pure]
    · cases h
  · -- nil
    simp only [Option.some.injEq, Prod.mk.injEq] at h
    obtain ⟨rfl, rfl⟩ := h
    cases hx
    exact ⟨fun w => by simp [Builtin.lenOf], #[], by simp [Builtin.firstCells], .nil, by simp⟩
  · rename_i c off len esz' cap
    cases hx with | sl hr ho hle hlk hcap =>
    rename_i off' b N k
    split at h
    · rename_i e cs ro hc
      split at h
      · rename_i hcond
        obtain ⟨rfl, hle2⟩ := hcond
        cases h
        obtain ⟨b', N', o, h1, h2, h3, h4⟩ := hs.obj _ _ hc
        rw [hr] at h1; cases h1
        obtain ⟨C, fr, rfl, hN, hw, _⟩ := h3.win
        have hCs := hw.1
        refine ⟨fun w => by simp [Builtin.lenOf], ?_⟩
        rcases ho with rfl | hk0
        · have he := hw.extract hle2
          refine ⟨_, ?_, he, by simp; omega⟩
          simp only [Builtin.firstCells, Nat.zero_add]
          exact run_loadCells h2 (by omega)
        · have : n = 0 := by omega
          subst this
          refine ⟨#[], ?_, by simp; exact .nil, by simp⟩
          simp [Builtin.firstCells, loadCells, loadCellsFrom]
      · cases h
    · cases h
  · rename_i cs len clip
    cases hx with | lst hF hl hcs hlk hclip =>
    rename_i b o k C
    split at h
    · rename_i hlen
      cases h
      obtain ⟨e, fr, h2⟩ := hs.frz _ _ hF
      have he := Win.extract (F := F) (r := nowhere) (cs := new) ⟨hl, hcs⟩ (off := 0) (size := new.length) (by omega)
      simp only [List.drop_zero, List.take_length, Nat.add_zero] at he
      refine ⟨fun w => by simp [Builtin.lenOf], _, ?_, he.mono (Frz.le_refl _) (nowhere_le _), by simp; omega⟩
      simp only [Builtin.firstCells]
      rw [run_loadCells h2 (by omega), hlen]
    · cases h

theorem cut_ge (need old e t : Nat) (_h : need < 2 ^ 60) : need ≤ (Question.appendCap need old e).cut t := by
  simp only [Question.cut]; omega

/-- What is asked of the types at an append. -/
structure AppT (P : Program) (ts : Array TypeId) (e esz bytes : Nat) : Prop where
  t0 : ∃ t, ts[0]? = some t ∧ P.underlying t = some (.slice e)
  t1 : ∃ t d, ts[1]? = some t ∧ P.underlying t = some d ∧ (∀ k, d ≠ .int k)
  hesz : sizeT P e = some esz
  hbytes : bytesT P e = some bytes
  zero : ∃ zs, zerosT P e = some zs
  pos : esz ≠ 0
  bpos : bytes ≠ 0

theorem AppT.info {ts : Array TypeId} {e esz bytes : Nat} (h : AppT P ts e esz bytes) : ∃ i z, P.info? e = some i ∧ i.bytes = bytes ∧ i.zero = some z ∧ z.cells.size = esz := by
  obtain ⟨zs, hz⟩ := h.zero
  have hb := h.hbytes
  have hsz := h.hesz
  unfold bytesT at hb
  unfold sizeT at hsz
  unfold zerosT zeroT sizeT at hz
  cases hi : P.info? e with
  | none => simp [hi] at hb
  | some i =>
    simp only [hi, Option.map_some, Option.some.injEq] at hb hsz hz
    cases hzz : i.zero with
    | none => simp [hzz] at hz
    | some z =>
      simp only [hzz] at hz
      split at hz
      · rename_i zv n e1 e2
        split at hz
        · rename_i hlen
          have := (VR.cells (toV_sound (F := fun _ => none) (r := nowhere) _ _ e1)).1
          cases e2
          exact ⟨i, z, rfl, hb, hzz, by omega⟩
        · cases hz
      · cases hz

/-- append, in the array that is there. -/
theorem append_stay {ts : Array TypeId} {t e esz bytes n len k : Nat} {us : Value} {a : Option Addr} {new : Array Value} {ux : Value} (hT : AppT P ts e esz bytes)
    (hu : us = .slice a len k) (hn : ∀ w, (Builtin.lenOf ux).run P w = .ok n w) (hnew : (Builtin.firstCells esz n ux).run P w = .ok new w) (hle : len + n ≤ k) {w'}
    (hst : ∀ b, a = some b → (storeCells (b.add (len * esz)) new.toList).run P w = .ok () w') (hnone : a = none → w' = w) :
    (Builtin.append_ ts t #[us, ux]).run P w = .ok (.slice a (len + n) k) w' := by
  subst hu
  obtain ⟨t0, h0, h0'⟩ := hT.t0
  obtain ⟨t1, d, h1, h1', h1''⟩ := hT.t1
  simp only [Builtin.append_, h0, h1, List.getElem?_toArray, List.getElem?_cons_zero, List.getElem?_cons_succ, Sem.run_bind, run_under h0', Result.andThen_ok, run_sizeOf hT.hesz, Sem.run_pure]
  rw [run_under h1']
  cases d <;> first
    | exact absurd rfl (h1'' _)
    | (simp only [Result.andThen_ok, Bool.false_eq_true, if_false, hn, Bool.not_false, if_true, hle, Sem.run_bind, hnew]
       cases a with
       | none => rw [hnone rfl]; rfl
       | some b => simp only [Sem.run_bind, hst b rfl, Result.andThen_ok, Sem.run_pure])

/-- append into a new array. -/
theorem append_grow {ts : Array TypeId} {t e esz bytes n len k : Nat} {us : Value} {a : Option Addr} {old new : Array Value} {ux : Value} (hT : AppT P ts e esz bytes)
    (hu : us = .slice a len k) (hn : ∀ w, (Builtin.lenOf ux).run P w = .ok n w) (hnew : (Builtin.firstCells esz n ux).run P w.drew = .ok new w.drew)
    (hold : (Builtin.firstCells esz len us).run P w.drew = .ok old w.drew) (hgt : k < len + n) (hroom : roomOk bytes (len + n) = true)
    (ho : old.size = len * esz) (hnw : new.size = n * esz) :
    ∃ (cap : Nat) (rest : Array Value), len + n ≤ cap ∧ (old ++ new ++ rest).size = cap * esz ∧
      (Builtin.append_ ts t #[us, ux]).run P w = .ok (.slice (some ⟨w.heap.size, 0, none⟩) (len + n) cap) (w.drew.alloc (.cells (old ++ new ++ rest) e)) := by
  obtain ⟨i, z, hi, hb, hz0, hzs⟩ := hT.info
  obtain ⟨t0, h0, h0'⟩ := hT.t0
  obtain ⟨t1, d, h1, h1', h1''⟩ := hT.t1
  simp only [roomOk, Bool.and_eq_true, decide_eq_true_eq] at hroom
  obtain ⟨hr1, hr2⟩ := hroom
  have hcap := cut_ge (len + n) k e (w.tape w.drawn (.appendCap (len + n) k e)) hr2
  refine ⟨(Question.appendCap (len + n) k e).cut (w.tape w.drawn (.appendCap (len + n) k e)), Builtin.zeroCells z.cells ((Question.appendCap (len + n) k e).cut (w.tape w.drawn (.appendCap (len + n) k e)) - (len + n)), hcap, ?_, ?_⟩
  · simp only [Array.size_append, ho, hnw, Builtin.zeroCells, Array.size_map, Array.size_range, hzs]
    rw [← Nat.add_mul, ← Nat.add_mul]
    congr 1; omega
  · have hti : ∀ w, (typeInfo e).run P w = .ok i w := fun w => by simp [typeInfo, hi]
    have hzv : ∀ w, (zeroValue e).run P w = .ok z w := fun w => run_zeroValue hi hz0
    have hfit := growslice_fits (need := len + n) (old := k) (bytes := bytes) hgt (by omega)
    have hmax : ¬ ((len + n : Nat) : Int) > IntKind.i64.max := by
      simp only [IntKind.max, IntKind.signed, IntKind.bits]; simp; omega
    have hbp := hT.bpos
    subst hu
    simp only [Builtin.append_, h0, h1, List.getElem?_toArray, List.getElem?_cons_zero, List.getElem?_cons_succ, Sem.run_bind, run_under h0', Result.andThen_ok, run_sizeOf hT.hesz, Sem.run_pure]
    rw [run_under h1']
    have hnle : ¬ len + n ≤ k := by omega
    have hfit' : ¬ (Builtin.nextslicecap (len + n) k * i.bytes > 2 ^ 48) := by rw [hb]; omega
    have hmax' : ¬ (((len + n : Nat) : Int) > IntKind.i64.max ∧ i.bytes = 0) := fun h => hmax h.1
    cases d <;> first
      | exact absurd rfl (h1'' _)
      | (simp only [Result.andThen_ok, Bool.false_eq_true, if_false, hn, Bool.not_false, if_true, hnle, Sem.run_bind, hti, false_or]
         rw [if_neg hmax']
         simp only [Sem.run_bind, hti, Result.andThen_ok]
         rw [if_neg hfit']
         simp only [Sem.run_bind, run_choose, Question.forced, Bool.false_eq_true, if_false, Result.andThen_ok, hti, run_askRoom, World.drew_eq]
         rw [hold]
         simp only [Result.andThen_ok]
         rw [hnew]
         simp only [Result.andThen_ok, hzv, newRow, run_newObj, Sem.run_bind, Sem.run_pure, World.alloc_eq, World.size_drew])

end
end Go.Proofs.YtjjgiigbhjfkaaaGreatDoor.Am

namespace Go.Proofs.YtjjgiigbhjfkaaaGreatDoor.Am
open Go

section
variable {K : CodeR} {F : Frz} {r : Loc} {m : Mem} {w : World} {P : Program} {G : Glob}

theorem Sim.drew (s : Sim K F r m w) : Sim K F r m w.drew := s.world rfl
theorem St.drew {F r m} {w : World} : St F r m w F r m w.drew := St.world rfl ⟨rfl, rfl⟩

theorem grow_sim {e n len cap esz : Nat} {new old : List V} {unew uold rest : Array Value} {m' : Mem} (hs : Sim K F r m' w) (hm : m'.size = m.size)
    (ho : VRs F r old uold) (hn : VRs F r new unew) (hsz : (uold ++ unew ++ rest).size = cap * esz) (hcap : len + n ≤ cap) (ro : Bool) :
    Sim K F (r.put m.size (w.heap.size, cap * esz)) (m'.push (.cells e (old ++ new) ro)) (w.drew.alloc (.cells (uold ++ unew ++ rest) e)) ∧
    St F r m' w F (r.put m.size (w.heap.size, cap * esz)) (m'.push (.cells e (old ++ new) ro)) (w.drew.alloc (.cells (uold ++ unew ++ rest) e)) ∧
    VR F (r.put m.size (w.heap.size, cap * esz)) (.sl m.size 0 (len + n) esz none) (.slice (some ⟨w.heap.size, 0, none⟩) (len + n) cap) := by
  have h := hs.drew.push (ch := .cells e (old ++ new) ro) (o := .cells (uold ++ unew ++ rest) e) (N := cap * esz)
    (.of_win hsz (((ho.append hn).to_win (rest := rest)).mono (Frz.le_refl _) (hs.drew.le_put _)) (fun i _ _ hh => by simp at hh))
  have h' := hs.drew.st_push (.cells e (old ++ new) ro) (.cells (uold ++ unew ++ rest) e) (cap * esz)
  rw [hm] at h h'
  refine ⟨h, St.trans St.drew h', .sl (Loc.put_same ..) (.inl rfl) (by simp) hcap (fun q hq => by cases hq)⟩

theorem app_sound {ts : Array TypeId} {t e esz bytes : Nat} {s x v : V} {us ux : Value} {m' : Mem} (hs : Sim K F r m w) (hT : AppT P ts e esz bytes)
    (hvs : VR F r s us) (hvx : VR F r x ux) (h : appV m e esz bytes s x = some (v, m')) : OpS K P F r m w (Builtin.append_ ts t #[us, ux]) v m' := by
  unfold appV at h
  split at h
  · cases h
  · rename_i n new hsrc
    obtain ⟨hlen, unew, hnew, hvn, hnsz⟩ := srcCells_sound (P := P) hs hvx hsrc
    obtain ⟨_, unew', hnew', hvn', hnsz'⟩ := srcCells_sound (P := P) hs.drew hvx hsrc
    split at h
    · -- nothing is added
      rename_i hn0
      subst hn0
      have hnil : unew = #[] := by
        apply Array.eq_empty_of_size_eq_zero; omega
      subst hnil
      have key : ∀ (a : Option Addr) (len k : Nat), us = .slice a len k → len ≤ k → (Builtin.append_ ts t #[us, ux]).run P w = .ok us w := by
        rintro a len k rfl hk
        have := append_stay (P := P) (us := .slice a len k) (a := a) (len := len) (k := k) (w' := w) (t := t) hT rfl hlen hnew (by omega) (by intro b _; simp [storeCells]) (fun _ => rfl)
        simpa using this
      split at h
      · cases h; cases hvs
        exact OpS.pure hs (key _ _ _ rfl (Nat.le_refl _)) .nils
      · cases h
        have hv := hvs
        cases hvs with | sl hr ho hle hlk hcap =>
        exact OpS.pure hs (key _ _ _ rfl hlk) hv
      · cases h
        have hv := hvs
        cases hvs with | lst hF hl hcs hlk hclip =>
        exact OpS.pure hs (key _ _ _ rfl hlk) hv
      · cases h
    · rename_i hn0
      split at h
      · cases h
      · rename_i hall
        have hall : new.all V.isCell = true := by simpa using hall
        split at h
        · -- onto nil
          split at h
          · rename_i hroom
            cases h; cases hvs
            obtain ⟨cap, rest, h1, h2, h3⟩ := append_grow (P := P) (us := .slice none 0 0) (a := none) (len := 0) (k := 0) (t := t) (old := #[]) hT rfl hlen hnew' (by simp [Builtin.firstCells]) (by omega) (by simpa using hroom) (by simp) hnsz'
            obtain ⟨g1, g2, g3⟩ := grow_sim (e := e) (m := m) hs rfl .nil hvn' h2 h1 false
            simp only [Nat.zero_add] at h3 g3
            exact ⟨_, _, F, _, h3, g1, g2, g3⟩
          · cases h
        · -- onto a clipped list
          rename_i cs len
          split at h
          · rename_i hc
            obtain ⟨hcl, hroom⟩ := hc
            cases h
            cases hvs with | lst hF hl hcs hlk hclip =>
            rename_i b o k C
            have hk := hclip rfl
            subst hk
            obtain ⟨e', fr, h2⟩ := hs.frz _ _ hF
            have he := Win.extract (F := F) (r := nowhere) (cs := cs) ⟨hl, hcs⟩ (off := 0) (size := cs.length) (by omega)
            simp only [List.drop_zero, List.take_length, Nat.add_zero] at he
            have hold : (Builtin.firstCells esz k (.slice (some ⟨b, o, none⟩) k k)).run P w.drew = .ok (C.extract o (o + cs.length)) w.drew := by
              simp only [Builtin.firstCells]
              rw [run_loadCells (w := w.drew) (e := e') (fr := fr) h2 (by omega), hcl]
            obtain ⟨cap, rest, h1, h2, h3⟩ := append_grow (P := P) (us := .slice (some ⟨b, o, none⟩) k k) (a := some ⟨b, o, none⟩) (len := k) (k := k) (t := t) hT rfl hlen hnew' hold (by omega) hroom (by simp; omega) hnsz'
            obtain ⟨g1, g2, g3⟩ := grow_sim (e := e) (m := m) hs rfl (he.mono (Frz.le_refl _) (nowhere_le _)) hvn' h2 h1 false
            exact ⟨_, _, F, _, h3, g1, g2, g3⟩
          · cases h
        · -- onto a slice of ours
          rename_i c off len esz' cap
          have hv0 := hvs
          cases hvs with | sl hr ho hle hlk hcap =>
          rename_i off' b N k
          split at h
          · rename_i e' cs ro hc
            split at h
            · rename_i hcond
              obtain ⟨rfl, rfl, hlc, hroom, rfl⟩ := hcond
              obtain ⟨b', N', o, h1, h2, h3, h4⟩ := hs.obj _ _ hc
              rw [hr] at h1; cases h1
              obtain ⟨C, fr, rfl, hN, hw, hfz⟩ := h3.win
              have hCs := hw.1
              have hoff : off' = 0 ∨ k = 0 := ho
              have hold : ∀ w1 : World, w1.heap = w.heap → ∃ uold, (Builtin.firstCells esz' len (.slice (some ⟨b, off', none⟩) len k)).run P w1 = .ok uold w1 ∧ VRs F r (cs.take (len * esz')) uold ∧ uold.size = len * esz' := by
                intro w1 hw1
                have he := hw.extract (off := 0) (size := len * esz') (by omega)
                simp only [List.drop_zero, Nat.add_zero, Nat.zero_add] at he
                rcases hoff with rfl | hk0
                · refine ⟨_, ?_, he, by simp; omega⟩
                  simp only [Builtin.firstCells]
                  rw [run_loadCells (w := w1) (C := C) (e := e') (fr := fr) (by rw [hw1]; exact h2) (by omega)]
                  simp
                · have : len = 0 := by omega
                  subst this
                  refine ⟨#[], by simp [Builtin.firstCells, loadCells, loadCellsFrom], ?_, by simp⟩
                  simp only [Nat.zero_mul, List.take_zero]
                  exact .nil
              have hnl : new.length = n * esz' := by rw [hvn.1, hnsz]
              have stay : ∀ (ro : Bool), (∀ i, i < C.size → (ro = true → cs.length ≤ i) → ¬ (fr.1 ≤ i ∧ i < fr.2)) → (ro = true → cs.length ≤ len * esz') → len + n ≤ k →
                  (Builtin.append_ ts t #[.slice (some ⟨b, off', none⟩) len k, ux]).run P w =
                    .ok (.slice (some ⟨b, 0, none⟩) (len + n) k) (putB w b (.cells (spliceA C (len * esz') unew.toList) e' fr)) ∧ len * esz' + new.length ≤ C.size ∧ off' = 0 := by
                intro ro hfz hro hlen'
                have ho0 : off' = 0 := by rcases hoff with h | h <;> omega
                subst ho0
                have hmul : (len + n) * esz' ≤ k * esz' := Nat.mul_le_mul_right _ hlen'
                rw [Nat.add_mul] at hmul
                have hul : unew.toList.length = n * esz' := by simpa using hnsz
                have hrun := run_storeCells (P := P) unew.toList (off := len * esz') (i := 0) h2 (by omega)
                  (fun j hj1 hj => hfz j (by omega) (fun h => by have := hro h; omega)) (all_oneC (by simpa using hvn) hall)
                refine ⟨append_stay (P := P) (us := .slice (some ⟨b, 0, none⟩) len k) (a := some ⟨b, 0, none⟩) (len := len) (k := k) (t := t) hT rfl hlen hnew hlen' (fun b' hb' => ?_) (fun h => by cases h), by omega, rfl⟩
                cases hb'
                rw [addr_add, Nat.zero_add]
                exact hrun
              split at h
              · -- its capacity is known
                rename_i k'
                have hk := hcap _ rfl
                subst hk
                split at h
                · rename_i hfit
                  split at h
                  · cases h
                  · rename_i hro
                    cases h
                    have hro' : ro = false := by simpa using hro
                    subst hro'
                    obtain ⟨hrun, hroomC, hoff0⟩ := stay false (fun i hi _ => hfz i hi (fun h => by cases h)) (fun h => by cases h) hfit
                    refine ⟨_, _, F, r, hrun, ?_, hs.st_set hc hr _ _, .sl hr (.inl rfl) (by omega) hfit (fun q hq => by cases hq; rfl)⟩
                    refine hs.set hc hr (.of_win (C := spliceA C (len * esz') unew.toList) (by simpa using hN) ?_ (fun i hi _ => hfz i (by simpa using hi) (fun h => by cases h)))
                    have hul : unew.toList.length = new.length := by rw [hnl]; simpa using hnsz
                    refine .of_get (by simp [splice]; omega) fun i v hv => ?_
                    rw [getElem?_splice hlc] at hv
                    rw [spliceA_get _ _ _ _ (by omega)]
                    split at hv
                    · rename_i hci
                      rw [if_pos (by omega)]
                      obtain ⟨u, hu, hvr⟩ := hvn.get hv
                      exact ⟨u, by simpa using hu, hvr⟩
                    · rename_i hci
                      rw [if_neg (by omega)]
                      obtain ⟨u, hu, hvr⟩ := hw.get hv
                      exact ⟨u, hu, hvr⟩
                · rename_i hfit
                  cases h
                  obtain ⟨uold, ho1, ho2, ho3⟩ := hold w.drew rfl
                  obtain ⟨cap', rest, h1, h2', h3⟩ := append_grow (P := P) (us := .slice (some ⟨b, off', none⟩) len k) (a := some ⟨b, off', none⟩) (len := len) (k := k) (t := t) hT rfl hlen hnew' ho1 (by omega) hroom ho3 hnsz'
                  obtain ⟨g1, g2, g3⟩ := grow_sim (e := e') (m := m) hs rfl ho2 hvn' h2' h1 false
                  exact ⟨_, _, F, _, h3, g1, g2, g3⟩
              · -- unknown: here or elsewhere
                split at h
                · cases h
                · rename_i hro
                  cases h
                  by_cases hfit : len + n ≤ k
                  · obtain ⟨hrun, hroomC, hoff0⟩ := stay ro hfz (fun h => by
                      by_cases hh : len * esz' < cs.length
                      · exact absurd ⟨h, hh⟩ hro
                      · omega) hfit
                    have hul : unew.toList.length = new.length := by rw [hnl]; simpa using hnsz
                    have hw' : Win F r (cs.take (len * esz') ++ new) (spliceA C (len * esz') unew.toList) 0 := by
                      refine .of_get (by simp; omega) fun i v hv => ?_
                      rw [spliceA_get _ _ _ _ (by omega)]
                      have hl : (cs.take (len * esz')).length = len * esz' := by simp; omega
                      by_cases hi : i < len * esz'
                      · rw [List.getElem?_append_left (by omega), List.getElem?_take_of_lt hi] at hv
                        rw [if_neg (by omega)]
                        obtain ⟨u, hu, hvr⟩ := hw.get hv
                        exact ⟨u, hu, hvr⟩
                      · rw [List.getElem?_append_right (by omega), hl] at hv
                        have hlt := (List.getElem?_eq_some_iff.1 hv).1
                        rw [if_pos (by omega)]
                        obtain ⟨u, hu, hvr⟩ := hvn.get hv
                        exact ⟨u, by simpa using hu, hvr⟩
                    have hmv := hs.move (ch' := .cells e' (cs.take (len * esz') ++ new) ro) (o := .cells (spliceA C (len * esz') unew.toList) e' fr) hc hr
                      (.of_win (by simpa using hN) (hw'.mono (Frz.le_refl _) (hs.le_put _)) (fun i hi hh => hfz i (by simpa using hi) (fun h => by
                        have := hh h
                        simp only [List.length_append, List.length_take] at this
                        by_cases hhc : len * esz' < cs.length
                        · exact absurd ⟨h, hhc⟩ hro
                        · omega)))
                    exact ⟨_, _, F, _, hrun, hmv, hs.st_move hc hr _ _, .sl (Loc.put_same ..) (.inl rfl) (by omega) hfit (fun q hq => by cases hq)⟩
                  · obtain ⟨uold, ho1, ho2, ho3⟩ := hold w.drew rfl
                    obtain ⟨cap', rest, h1, h2', h3⟩ := append_grow (P := P) (us := .slice (some ⟨b, off', none⟩) len k) (a := some ⟨b, off', none⟩) (len := len) (k := k) (t := t) hT rfl hlen hnew' ho1 (by omega) hroom ho3 hnsz'
                    obtain ⟨g1, g2, g3⟩ := grow_sim (e := e') (m := m) (hs.kill hc) rfl ho2 hvn' h2' h1 ro
                    exact ⟨_, _, F, _, h3, g1, (hs.st_kill hc).trans g2, g3⟩
            · cases h
          · cases h
        · cases h

theorem firstCells_take {esz n k : Nat} {x : V} {new : List V} {u : Value} (hs : Sim K F r m w) (hx : VR F r x u) (h : srcCells m esz x = some (n, new)) (hk : k ≤ n) :
    ∃ us, (Builtin.firstCells esz k u).run P w = .ok us w ∧ VRs F r (new.take (k * esz)) us ∧ us.size = k * esz := by
  have hmul : k * esz ≤ n * esz := Nat.mul_le_mul_right _ hk
  cases x <;> simp only [srcCells, reduceCtorEq] at h
  · split at h
    · rename_i he; cases h; subst he
      cases hx with | str hb =>
      rename_i s b
      have hsz := ba_size hb
      have hb' := ba_extract hb 0 k
      refine ⟨_, by simp only [Builtin.firstCells]; rfl, ?_, ?_⟩
      · have := bytes_vrs (F := F) (r := r) hb'
        simp only [Nat.mul_one, ← List.map_take, Nat.sub_zero, List.drop_zero] at this ⊢
        exact this
      · simp only [Array.size_map, Nat.mul_one]
        have := ba_size hb'
        simp only [Nat.sub_zero, List.drop_zero, List.length_take] at this
        rw [← ByteArray.size_data] at this
        omega
    · cases h
  · simp only [Option.some.injEq, Prod.mk.injEq] at h
    obtain ⟨rfl, rfl⟩ := h
    cases hx
    have : k = 0 := by omega
    subst this
    exact ⟨#[], by simp [Builtin.firstCells], by simpa using .nil, by simp⟩
  · rename_i c off len esz' cap
    cases hx with | sl hr ho hle hlk hcap =>
    rename_i off' b N kk
    split at h
    · rename_i e cs ro hc
      split at h
      · rename_i hcond
        obtain ⟨rfl, hle2⟩ := hcond
        cases h
        obtain ⟨b', N', o, h1, h2, h3, h4⟩ := hs.obj _ _ hc
        rw [hr] at h1; cases h1
        obtain ⟨C, fr, rfl, hN, hw, _⟩ := h3.win
        have hCs := hw.1
        rcases ho with rfl | hk0
        · have he := hw.extract (off := off') (size := k * esz') (by omega)
          refine ⟨C.extract off' (off' + k * esz'), ?_, ?_, by simp; omega⟩
          · simp only [Builtin.firstCells]
            exact run_loadCells h2 (by omega)
          · rw [List.take_take, Nat.min_eq_left hmul]
            simpa using he
        · have : k = 0 := by omega
          subst this
          refine ⟨#[], ?_, by simp; exact .nil, by simp⟩
          simp [Builtin.firstCells, loadCells, loadCellsFrom]
      · cases h
    · cases h
  · rename_i cs len clip
    cases hx with | lst hF hl hcs hlk hclip =>
    rename_i b o kk C
    split at h
    · rename_i hlen
      cases h
      obtain ⟨e, fr, h2⟩ := hs.frz _ _ hF
      have he := Win.extract (F := F) (r := nowhere) (cs := new) ⟨hl, hcs⟩ (off := 0) (size := k * esz) (by omega)
      simp only [List.drop_zero, Nat.add_zero] at he
      refine ⟨C.extract o (o + k * esz), ?_, he.mono (Frz.le_refl _) (nowhere_le _), by simp; omega⟩
      simp only [Builtin.firstCells]
      rw [run_loadCells h2 (by omega)]
    · cases h

theorem copy_sound {ts : Array TypeId} {t t0 e esz : Nat} {d s v : V} {ud us : Value} {m' : Mem} (hs : Sim K F r m w) (h0 : ts[0]? = some t0) (h0' : P.underlying t0 = some (.slice e))
    (hsz : sizeT P e = some esz) (hvd : VR F r d ud) (hvs : VR F r s us) (h : copyV m esz d s = some (v, m')) : OpS K P F r m w (Builtin.copy_ ts t #[ud, us]) v m' := by
  unfold copyV at h
  split at h
  · cases h
  · rename_i n new hsrc
    obtain ⟨hlen, _⟩ := srcCells_sound (P := P) hs hvs hsrc
    split at h
    · cases h; cases hvd
      obtain ⟨us0, hn0, hv0, hz0⟩ := firstCells_take (P := P) (k := 0) hs hvs hsrc (Nat.zero_le _)
      refine OpS.pure hs ?_ .int
      simp [Builtin.copy_, h0, run_under h0', Result.andThen_ok, hlen, run_sizeOf hsz, hn0, goInt]
    · rename_i c off len esz' cap
      cases hvd with | sl hr ho hle hlk hcap =>
      rename_i off' b N kk
      split at h
      · rename_i e' cs hc
        split at h
        · rename_i hcond
          obtain ⟨rfl, hle2, hall⟩ := hcond
          cases h
          obtain ⟨b', N', o, h1, h2, h3, h4⟩ := hs.obj _ _ hc
          rw [hr] at h1; cases h1
          obtain ⟨C, fr, rfl, hN, hw, hfz⟩ := h3.win
          have hCs := hw.1
          obtain ⟨us0, hn0, hv0, hz0⟩ := firstCells_take (P := P) (k := min n len) hs hvs hsrc (Nat.min_le_left ..)
          have hmul : min n len * esz' ≤ len * esz' := Nat.mul_le_mul_right _ (Nat.min_le_right ..)
          have hnl : (new.take (min n len * esz')).length = min n len * esz' := by rw [hv0.1, hz0]
          have hall' : (new.take (min n len * esz')).all V.isCell = true := by
            rw [List.all_eq_true] at hall ⊢
            exact fun x hx => hall x (List.mem_of_mem_take hx)
          have hoff : off' = off ∨ us0.size = 0 := by
            rcases ho with h | h
            · exact .inl h
            · right; rw [hz0]; have : len = 0 := by omega
              subst this; simp
          have hrun : (storeCells ⟨b, off', none⟩ us0.toList).run P w = .ok () (putB w b (.cells (spliceA C off us0.toList) e' fr)) := by
            rcases hoff with rfl | h0
            · have := run_storeCells (P := P) us0.toList (off := off') (i := 0) h2 (by simp [hz0]; omega) (fun j hj1 hj => hfz j (by simp at hj; omega) (fun h => by cases h))
                (all_oneC (by simpa using hv0) hall')
              simpa using this
            · have : us0 = #[] := Array.eq_empty_of_size_eq_zero h0
              subst this
              simp [storeCells, spliceA, putB_id h2]
          refine ⟨_, _, F, r, ?_, hs.set hc hr (.of_win (C := spliceA C off us0.toList) (by simpa using hN) ?_ (fun i hi _ => hfz i (by simpa using hi) (fun h => by cases h))), hs.st_set hc hr _ _, .int⟩
          · simp [Builtin.copy_, h0, run_under h0', Result.andThen_ok, hlen, run_sizeOf hsz, hn0, hrun, goInt]
          · exact hw.splice (by simpa using hv0) (by omega)
        · cases h
      · cases h
    · cases h

end
end Go.Proofs.YtjjgiigbhjfkaaaGreatDoor.Am

namespace Go.Proofs.YtjjgiigbhjfkaaaGreatDoor.Am
open Go

section
variable {K : CodeR} {F : Frz} {r : Loc} {m : Mem} {w : World} {P : Program} {G : Glob}

theorem freeze_alloc (C : Array Value) (e : Nat) :
    (w.alloc (.cells C e)).freeze { block := w.heap.size, off := C.size } 1 = w.alloc (.cells C e (C.size, C.size + 1)) := by
  have : ∀ (a : Array Obj) (o : Obj) (f : Obj → Obj), (a.push o).modify a.size f = a.push (f o) := by
    intro a o f
    apply Array.ext
    · simp
    · intro i h1 h2
      simp only [Array.getElem_modify, Array.getElem_push]
      by_cases h : i = a.size
      · subst h; simp
      · have : i < a.size := by simp at h2; omega
        simp [this, Ne.symm h]
  simp only [World.freeze, World.alloc]
  rw [this]
  rfl

theorem s2b_sound {e : TypeId} {s : List Nat} {u : Value} (hs : Sim K F r m w) (hx : VR F r (.str s) u) (hl : s.length < 2 ^ 60) {b : ByteArray} (hu : u = .string b) :
    OpS K P F r m w (Conv.stringToBytes e b) (.sl m.size 0 s.length 1 none) (m.push (.cells e (s.map natB) false)) := by
  subst hu
  cases hx with | str hb =>
  have hsz := ba_size hb
  have hcap := cut_ge b.size 0 e (w.tape w.drawn (.appendCap b.size 0 e)) (by omega)
  generalize hk : (Question.appendCap b.size 0 e).cut (w.tape w.drawn (.appendCap b.size 0 e)) = k at hcap
  let C : Array Value := (b.data.map fun x => .int .u8 x.toNat) ++ Array.replicate (k - b.size) (.int .u8 0)
  have hC : C.size = k := by
    simp only [C, Array.size_append, Array.size_map, Array.size_replicate, ByteArray.size_data]; omega
  have hrun : (Conv.stringToBytes e b).run P w = .ok (.slice (some ⟨w.heap.size, 0, none⟩) b.size k) (w.drew.alloc (.cells C e (C.size, C.size + 1))) := by
    rw [← freeze_alloc]
    simp only [Conv.stringToBytes, Sem.run_bind, run_choose, Question.forced, Bool.false_eq_true, if_false, Result.andThen_ok, hk, newRow, run_newObj, Sem.run_pure, World.drew_eq,
      markStringish, World.alloc_eq, World.size_drew]
    simp only [Sem.run_bind, run_shape, World.shape?, World.alloc, Result.andThen_ok, World.size_drew]
    simp only [Array.getElem?_push, World.size_drew, if_true, Result.andThen_ok, run_freeze, Sem.run_bind, Sem.run_pure]
    rfl
  have hv : VRs F r (s.map natB) (b.data.map fun x => Value.int .u8 x.toNat) := bytes_vrs hb
  have h := hs.drew.push (ch := .cells e (s.map natB) false) (o := .cells C e (C.size, C.size + 1)) (N := k)
    (.of_win hC ((hv.to_win).mono (Frz.le_refl _) (hs.drew.le_put _)) (fun i hi _ hh => by simp only at hh; omega))
  have h' := hs.drew.st_push (.cells e (s.map natB) false) (.cells C e (C.size, C.size + 1)) k
  refine ⟨_, _, F, _, hrun, h, St.trans St.drew h', ?_⟩
  rw [hsz]
  exact .sl (Loc.put_same ..) (.inl rfl) (by simp) (by omega) (fun q hq => by cases hq)

theorem bytesOf_sound : ∀ {cs : List V} {us : List Value} {s : List Nat}, bytesOf cs = some s → VRs F r cs ⟨us⟩ →
    us = s.map (fun n : Nat => Value.int .u8 n) ∧ ∀ n ∈ s, n < 256
  | [], us, s, h, hv => by
    cases h
    have : us = [] := by have := hv.1; simp at this; exact List.eq_nil_of_length_eq_zero this.symm
    subst this
    exact ⟨rfl, fun n hn => by cases hn⟩
  | v :: cs, us, s, h, hv => by
    simp only [bytesOf] at h
    split at h
    · rename_i b bs hb hbs
      cases h
      cases us with
      | nil => have := hv.1; simp at this
      | cons u us =>
        have hv0 := hv.2 0 (by simp) (by simp)
        simp only [List.getElem_cons_zero, List.getElem_toArray] at hv0
        have hvs : VRs F r cs ⟨us⟩ := ⟨by have := hv.1; simp at this; simpa using this, fun i h1 h2 => by
          have := hv.2 (i + 1) (by simp; omega) (by simp at h2 ⊢; omega)
          simpa using this⟩
        obtain ⟨e1, e2⟩ := bytesOf_sound hbs hvs
        cases v <;> simp only [byteOf, reduceCtorEq] at hb
        rename_i k n
        cases k <;> simp only [reduceCtorEq] at hb
        split at hb
        · rename_i hn
          cases hb
          cases hv0
          refine ⟨by simp only [List.map_cons, ← e1, Int.toNat_of_nonneg hn.1], fun n hn' => ?_⟩
          rcases List.mem_cons.1 hn' with rfl | hh
          · omega
          · exact e2 n hh
        · cases hb
    · cases h

theorem foldl_push_bytes : ∀ (ns : List Int) (b : ByteArray), (ns.foldl (fun r n => r.push (UInt8.ofNat n.toNat)) b).data.toList = b.data.toList ++ ns.map fun n => UInt8.ofNat n.toNat
  | [], b => by simp
  | n :: ns, b => by
    rw [List.foldl_cons, foldl_push_bytes ns]
    simp

theorem b2s_sound {x : V} {n : Nat} {cs : List V} {s : List Nat} {u : Value} (hs : Sim K F r m w) (hx : VR F r x u) (h : srcCells m 1 x = some (n, cs)) (hstr : ∀ t, x ≠ .str t)
    (hb : bytesOf cs = some s) : OpS K P F r m w (Conv.bytesToString u) (.str s) m := by
  have key : ∀ (a : Addr) (len k : Nat) (us : Array Value), u = .slice (some a) len k → (loadCells a len).run P w = .ok us w → VRs F r cs us → OpS K P F r m w (Conv.bytesToString u) (.str s) m := by
    rintro a len k us rfl hl hv
    obtain ⟨e1, e2⟩ := bytesOf_sound hb hv
    have := run_bytesToString (P := P) w a len k (s.map Int.ofNat) (by
      rw [hl, List.map_map]
      have : us = ⟨us.toList⟩ := rfl
      rw [this, e1]; rfl)
    refine OpS.pure hs this (.str ?_)
    rw [foldl_push_bytes]
    simp only [ByteArray.data_empty, List.nil_append, List.map_map]
    have : ∀ (l : List Nat), (∀ n ∈ l, n < 256) → List.map (UInt8.toNat ∘ (fun n : Int => UInt8.ofNat n.toNat) ∘ Int.ofNat) l = l := by
      intro l hl
      conv => rhs; rw [← List.map_id l]
      refine List.map_congr_left fun n hn => ?_
      have := hl n hn
      simp only [Function.comp, Int.ofNat_eq_natCast, Int.toNat_natCast, id, UInt8.toNat_ofNat']
      omega
    simpa using this s e2
  have hx0 := hx
  cases x <;> simp only [srcCells, reduceCtorEq] at h
  · exact absurd rfl (hstr _)
  · simp only [Option.some.injEq, Prod.mk.injEq] at h
    obtain ⟨rfl, rfl⟩ := h
    cases hb
    cases hx
    exact OpS.pure hs (u := .string .empty) (by simp [Conv.bytesToString]) (.str rfl)
  · rename_i c off len esz' cap
    obtain ⟨hl, us, hf, hv, hz⟩ := srcCells_sound (P := P) (esz := 1) (n := n) (new := cs) hs hx (by simp only [srcCells]; exact h)
    cases hx with | sl hr ho hle hlk hcap =>
    have hn : n = len := by
      have := hl w
      simp only [Builtin.lenOf, Sem.run_pure, Result.ok.injEq] at this
      exact this.1.symm
    subst hn
    refine key _ _ _ us rfl ?_ hv
    simpa [Builtin.firstCells] using hf
  · rename_i cs' len clip
    obtain ⟨hl, us, hf, hv, hz⟩ := srcCells_sound (P := P) (esz := 1) (n := n) (new := cs) hs hx (by simp only [srcCells]; exact h)
    cases hx with | lst hF hll hcs hlk hclip =>
    have hn : n = len := by
      have := hl w
      simp only [Builtin.lenOf, Sem.run_pure, Result.ok.injEq] at this
      exact this.1.symm
    subst hn
    refine key _ _ _ us rfl ?_ hv
    simpa [Builtin.firstCells] using hf

theorem toBA_eq {s : List Nat} {b : ByteArray} (hb : b.data.toList.map UInt8.toNat = s) : toBA s = b := by
  subst hb
  unfold toBA
  have : (List.map UInt8.ofNat (List.map UInt8.toNat b.data.toList)) = b.data.toList := by
    rw [List.map_map]
    conv => rhs; rw [← List.map_id b.data.toList]
    exact List.map_congr_left fun x _ => by simp
  rw [this]

theorem rngs_sound {t : TypeId} {s : List Nat} {u : Value} (hs : Sim K F r m w) (hd : P.underlying t = some .string) (hx : VR F r (.str s) u) :
    OpS K P F r m w (Instr.range t u) (.ptr m.size 0) (m.push (.siter s 0)) := by
  cases hx with | str hb =>
  rename_i b
  refine ⟨_, _, F, _, ?_, hs.push (o := .stringIter b 0) (N := 0) (.siter hb), hs.st_push _ _ _, .ptr (Loc.put_same ..)⟩
  simp only [Instr.range, Sem.run_bind, run_under hd, Result.andThen_ok, Sem.run_pure, run_newObj]
  rfl

theorem nexts_sound {t : TypeId} {c : Nat} {s : List Nat} {pos : Nat} {v : V} {uit : Value} {m' : Mem} (hs : Sim K F r m w) (hx : VR F r (.ptr c 0) uit) (hc : m.get c = some (.siter s pos))
    (h : (if pos < s.length then
          some (V.tup [.bool true, .int .i64 pos, .int .i32 (Utf8.decode (toBA s) pos).1], m.set c (.siter s (pos + (Utf8.decode (toBA s) pos).2)))
        else some (.tup [.bool false], m)) = some (v, m')) : OpS K P F r m w (Instr.next uit true t) v m' := by
  cases hx with | ptr hr =>
  rename_i b N
  obtain ⟨b', N', o, h1, h2, h3, h4⟩ := hs.obj _ _ hc
  rw [hr] at h1; cases h1
  cases h3 with | siter hb =>
  rename_i by_
  rw [toBA_eq hb] at h
  have hsz := ba_size hb
  have hget : (getObj b).run P w = .ok (.stringIter by_ pos) w := by simp [getObj, Sem.run, h2]
  have hset : ∀ o', (setObj b o').run P w = .ok () (putB w b o') := fun o' => by simp [setObj, Sem.run, h2, putB]
  split at h
  · rename_i hp
    cases h
    refine ⟨.tuple #[.bool true, .int .i64 pos, .int .i32 (Utf8.decode by_ pos).1], _, F, r, ?_, hs.set hc hr (.siter hb), hs.st_set hc hr _ _, ?_⟩
    · simp only [Instr.next, Sem.run_bind, hget, Result.andThen_ok, hsz, hp, if_true, hset, Sem.run_pure, goInt]
    · refine .tup (by simp) fun i h1 h2 => ?_
      match i with
      | 0 => exact .bool
      | 1 => exact .int
      | 2 => exact .int
      | i + 3 => simp at h1; omega
  · rename_i hp
    cases h
    refine OpS.pure hs (u := .tuple #[.bool false]) ?_ (.tup (by simp) fun i h1 h2 => ?_)
    · simp only [Instr.next, Sem.run_bind, hget, Result.andThen_ok, hsz, hp, if_false, Sem.run_pure]
    · match i with
      | 0 => exact .bool
      | i + 1 => simp at h1

theorem rngm_sound {t k e : TypeId} {x : V} {u : Value} {v : V} {m' : Mem} (hs : Sim K F r m w) (hd : P.underlying t = some (.map k e)) (hx : VR F r x u)
    (h : (match (generalizing := false) x with
      | .nilm => some (V.ptr m.size 0, m.push (.miter none))
      | .mp c => match (generalizing := false) m.get c with
        | some (.map _ _) => some (V.ptr m.size 0, m.push (.miter (some c)))
        | _ => none
      | _ => none) = some (v, m')) : OpS K P F r m w (Instr.range t u) v m' := by
  split at h
  · cases h
    cases hx
    refine ⟨_, _, F, _, ?_, hs.push (o := .mapIter none 0 #[] 0) (N := 0) .miter0, hs.st_push _ _ _, .ptr (Loc.put_same ..)⟩
    simp only [Instr.range, Sem.run_bind, run_under hd, Result.andThen_ok, Sem.run_pure, run_newObj]
    rfl
  · rename_i c
    split at h
    · rename_i es clock hg
      cases h
      cases hx with | mp hr =>
      rename_i b N
      obtain ⟨b', N', o, h1, h2, h3, h4⟩ := hs.obj _ _ hg
      rw [hr] at h1; cases h1
      cases h3 with | map g1 g2 =>
      rename_i us
      have hget : (getObj b).run P w = .ok (.map us clock) w := by simp [getObj, Sem.run, h2]
      refine ⟨_, _, F, _, ?_, hs.push (o := .mapIter (some b) clock #[] clock) (N := 0) (.miter (hs.le_put _ _ _ hr)), hs.st_push _ _ _, .ptr (Loc.put_same ..)⟩
      simp only [Instr.range, Sem.run_bind, run_under hd, Result.andThen_ok, hget, Sem.run_pure, run_newObj]
      rfl
    · cases h
  · cases h

theorem nextm_sound {t : TypeId} {x : V} {v : V} {uit : Value} {m' : Mem} (hs : Sim K F r m w) (hx : VR F r x uit)
    (h : (match (generalizing := false) x with
      | .ptr i 0 => match (generalizing := false) m.get i with
        | some (.miter none) => some (V.tup [.bool false], m)
        | some (.miter (some c)) => match (generalizing := false) m.get c with
          | some (.map [] _) => some (V.tup [.bool false], m)
          | _ => none
        | _ => none
      | _ => none) = some (v, m')) : OpS K P F r m w (Instr.next uit false t) v m' := by
  have hv : VR F r (V.tup [.bool false]) (.tuple #[.bool false]) := .tup (by simp) fun i h1 h2 => by
    match i with
    | 0 => exact .bool
    | i + 1 => simp at h1
  split at h
  · rename_i i
    split at h
    · rename_i hg
      cases h
      cases hx with | ptr hr =>
      rename_i b N
      obtain ⟨b', N', o, h1, h2, h3, h4⟩ := hs.obj _ _ hg
      rw [hr] at h1; cases h1
      cases h3
      rename_i s s'
      have hget : (getObj b).run P w = .ok (.mapIter none s #[] s') w := by simp [getObj, Sem.run, h2]
      refine OpS.pure hs (u := .tuple #[.bool false]) ?_ hv
      simp only [Instr.next, Sem.run_bind, hget, Result.andThen_ok, Sem.run_pure]
    · rename_i c hg
      split at h
      · rename_i clock hm
        cases h
        cases hx with | ptr hr =>
        rename_i b N
        obtain ⟨b', N', o, h1, h2, h3, h4⟩ := hs.obj _ _ hg
        rw [hr] at h1; cases h1
        cases h3 with | miter hc =>
        rename_i bm Nm s s'
        obtain ⟨b', N', o, h1, h2', h3, h4⟩ := hs.obj _ _ hm
        rw [hc] at h1; cases h1
        cases h3 with | map g1 g2 =>
        rename_i us
        have hus : us = #[] := by
          apply Array.eq_empty_of_size_eq_zero
          rw [← g1]; rfl
        subst hus
        have hget : (getObj b).run P w = .ok (.mapIter (some bm) s #[] s') w := by simp [getObj, Sem.run, h2]
        have hget' : (getObj bm).run P w = .ok (.map #[] clock) w := by simp [getObj, Sem.run, h2']
        refine OpS.pure hs (u := .tuple #[.bool false]) ?_ hv
        simp [Instr.next, hget, hget', Result.andThen_ok, show (Question.mapNext 1).forced = true from rfl]
      · cases h
    · cases h
  · cases h

end
end Go.Proofs.YtjjgiigbhjfkaaaGreatDoor.Am

namespace Go.Proofs.YtjjgiigbhjfkaaaGreatDoor.Am
open Go

section
variable {K : CodeR} {F : Frz} {r : Loc} {m : Mem} {w : World} {P : Program} {G : Glob}

/-- The checks of a map's key. -/
theorem checkKey_sound (em : Bool) : ∀ (n : Nat),
    (∀ (t : TypeId) (d : EqD) (x : V) (ux : Value) (k : Nat), eqDesc P false n t = some d → eqV d x x = some true → VR F r x ux → n ≤ k →
      ∀ w, (Instr.checkKey em k t ux).run P w = .ok () w) ∧
    (∀ (fs : List Field) (ds : List (Nat × Nat × Bool × EqD)) (xs : List V) (uxs : Array Value) (k : Nat), eqDescs P false n fs = some ds → eqsV ds xs xs = some true →
      VRs F r xs uxs → n ≤ k → ∀ w, (forIn fs PUnit.unit fun f _ => do
          if f.name ≠ "_" then Instr.checkKey em k f.type (← part f.type uxs f.offset)
          pure (ForInStep.yield PUnit.unit) : Sem PUnit).run P w = .ok PUnit.unit w)
  | 0 => by
    refine ⟨fun t d x ux k h => by simp [eqDesc] at h, fun fs ds xs uxs k h => ?_⟩
    cases fs with
    | nil => intro _ _ _ w; rfl
    | cons f fs => simp [eqDescs] at h
  | n + 1 => by
    have ih := checkKey_sound em n
    refine ⟨fun t d x ux k h hb hx hk w => ?_, fun fs ds xs uxs k h hb hx hk w => ?_⟩
    · obtain ⟨k, rfl⟩ : ∃ j, k = j + 1 := ⟨k - 1, by omega⟩
      simp only [eqDesc] at h
      split at h
      · rename_i ht; cases h
        cases x <;> simp only [eqV, reduceCtorEq] at hb
        cases hx
        simp only [Instr.checkKey, Sem.run_bind, run_under ht, Result.andThen_ok, Sem.run_pure]
      · rename_i ht; cases h
        cases x <;> simp only [eqV, reduceCtorEq] at hb
        cases hx
        simp only [Instr.checkKey, Sem.run_bind, run_under ht, Result.andThen_ok, Sem.run_pure]
      · rename_i ht; cases h
        cases x <;> simp only [eqV, reduceCtorEq] at hb
        cases hx
        simp only [Instr.checkKey, Sem.run_bind, run_under ht, Result.andThen_ok, Sem.run_pure]
      · simp at h
      · simp at h
      · simp at h
      · simp at h
      · simp at h
      · rename_i fs ht
        split at h
        · cases h
        · simp only [Option.map_eq_some_iff] at h
          obtain ⟨ds, hds, rfl⟩ := h
          cases x <;> simp only [eqV, reduceCtorEq] at hb
          cases hx with | agg hx1 hx2 =>
          have := ih.2 _ _ _ _ k hds hb ⟨hx1, hx2⟩ (by omega) w
          rw [Instr.checkKey]
          simp only [Sem.run_bind, run_under ht, Result.andThen_ok]
          rw [← Array.forIn_toList]
          simp only [Sem.run_bind] at this ⊢
          first
            | exact this
            | (rw [this]; rfl)
            | simpa using this
      · cases h
    · cases fs with
      | nil => rfl
      | cons f fs =>
        simp only [eqDescs] at h
        split at h
        · cases h
        · rename_i hname
          split at h
          · rename_i s a d ds' h1 h2 h3 h4
            cases h
            simp only [eqsV] at hb
            split at hb
            · rename_i x y hrx hry
              rw [hrx] at hry; cases hry
              obtain ⟨ux, hux, hvx⟩ := part_sound (P := P) h2 h1 hx hrx
              split at hb
              · rename_i he
                have e1 := ih.1 _ _ _ _ k h3 he hvx (by omega) w
                have e2 := ih.2 _ _ _ _ k h4 hb hx (by omega) w
                rw [List.forIn_cons]
                simp only [ne_eq, hname, not_false_eq_true, if_true, Sem.run_bind, hux, Result.andThen_ok, e1, Sem.run_pure]
                simpa using e2
              · cases hb
              · cases hb
            · cases hb
          · cases h

/-- Entries of a map. -/
def EsR (F : Frz) (r : Loc) (es : List (V × V × Nat)) (us : List MapEntry) : Prop :=
  es.length = us.length ∧ ∀ i (h1 : i < es.length) (h2 : i < us.length), VR F r es[i].1 us[i].key ∧ VR F r es[i].2.1 us[i].val ∧ es[i].2.2 = us[i].born

theorem EsR.tail {e es u us} (h : EsR F r (e :: es) (u :: us)) : EsR F r es us :=
  ⟨by have := h.1; simpa using this, fun i h1 h2 => by have := h.2 (i + 1) (by simp; omega) (by simp; omega); simpa using this⟩
theorem EsR.head {e es u us} (h : EsR F r (e :: es) (u :: us)) : VR F r e.1 u.key ∧ VR F r e.2.1 u.val ∧ e.2.2 = u.born := by
  have := h.2 0 (by simp) (by simp); simpa using this

theorem now_sound {d : EqD} {desc : TypeDesc} {k e : V} {uk ue : Value} {b x : Bool} (hb : eqV d k e = some b) (hk : VR F r k uk) (he : VR F r e ue)
    (h : Instr.sameNow desc uk ue = some x) : x = b := by
  unfold Instr.sameNow at h
  split at h
  · split at h
    · rename_i hkk; cases h
      subst hkk
      cases hk; cases he
      cases d <;> simp only [eqV, reduceCtorEq] at hb
      simpa [int_beq] using hb
    · cases h
  · cases h
    cases hk with | str ha => cases he with | str hb' =>
    cases d <;> simp only [eqV, reduceCtorEq, Option.some.injEq] at hb
    rw [← hb, ← str_beq ha hb', beq_toListBytes]
  · cases h
    cases hk; cases he
    cases d <;> simp only [eqV, reduceCtorEq, Option.some.injEq] at hb
    exact hb
  · cases h

theorem find_sound {t : TypeId} {d : EqD} {desc : TypeDesc} (hd : eqDesc P false 50 t = some d) (ht : P.underlying t = some desc) {k : V} {uk : Value} (hk : VR F r k uk) :
    ∀ (es : List (V × V × Nat)) (us : List MapEntry) (i : Nat) {a : Option (Nat × V)}, EsR F r es us → findV d k es i = some a →
      ∃ ua, (∀ x, Instr.findNow desc uk us i = some x → x = ua) ∧ (∀ w, (Instr.findAsking t uk us i).run P w = .ok ua w) ∧
        (match a with | none => ua = none | some (j, v) => ∃ uv, ua = some (j, uv) ∧ VR F r v uv ∧ i ≤ j ∧ ∃ e, es[j - i]? = some e ∧ e.2.1 = v)
  | [], us, i, a, hes, h => by
    have : us = [] := by have := hes.1; simp at this; exact List.eq_nil_of_length_eq_zero this.symm
    subst this
    simp only [findV, Option.some.injEq] at h
    subst h
    exact ⟨none, fun x hx => by simpa [Instr.findNow] using hx.symm, fun w => by simp [Instr.findAsking], rfl⟩
  | e :: es, us, i, a, hes, h => by
    cases us with
    | nil => have := hes.1; simp at this
    | cons u us =>
      obtain ⟨hk1, hv1, hb1⟩ := hes.head
      simp only [findV] at h
      have now : ∀ b, eqV d k e.1 = some b → ∀ x, Instr.sameNow desc uk u.key = some x → x = b := fun b hb x hx => now_sound hb hk hk1 hx
      split at h
      · rename_i he
        cases h
        refine ⟨some (i, u.val), fun x hx => ?_, fun w => ?_, _, rfl, hv1, Nat.le_refl _, e, by simp, rfl⟩
        · simp only [Instr.findNow] at hx
          split at hx
          · simpa using hx.symm
          · rename_i hs; cases now _ he _ hs
          · cases hx
        · have := (eqV_sound (P := P) (F := F) (r := r) false 50).1 t d k e.1 uk u.key true Op.maxDepth hd he hk hk1 (by simp [Op.maxDepth]) w
          simp only [Instr.findAsking, Sem.run_bind, Op.equal, this, Result.andThen_ok, if_true, Sem.run_pure]
      · rename_i he
        obtain ⟨ua, h1, h2, h3⟩ := find_sound hd ht hk es us (i + 1) hes.tail h
        refine ⟨ua, fun x hx => ?_, fun w => ?_, ?_⟩
        · simp only [Instr.findNow] at hx
          split at hx
          · rename_i hs; cases now _ he _ hs
          · exact h1 _ hx
          · cases hx
        · have := (eqV_sound (P := P) (F := F) (r := r) false 50).1 t d k e.1 uk u.key false Op.maxDepth hd he hk hk1 (by simp [Op.maxDepth]) w
          simp only [Instr.findAsking, Sem.run_bind, Op.equal, this, Result.andThen_ok, Bool.false_eq_true, if_false]
          exact h2 w
        · cases a with
          | none => exact h3
          | some p =>
            obtain ⟨uv, e1, e2, e3, e', e4, e5⟩ := h3
            refine ⟨uv, e1, e2, by omega, e', ?_, e5⟩
            rw [show p.1 - i = (p.1 - (i + 1)) + 1 by omega]
            simpa using e4
      · cases h

end
end Go.Proofs.YtjjgiigbhjfkaaaGreatDoor.Am

namespace Go.Proofs.YtjjgiigbhjfkaaaGreatDoor.Am
open Go

section
variable {K : CodeR} {F : Frz} {r : Loc} {m : Mem} {w : World} {P : Program} {G : Glob}

/-- The entry of a key. -/
theorem findK_sound {t : TypeId} {d : EqD} (hd : eqDesc P false 50 t = some d) {k : V} {uk : Value} (hk : VR F r k uk) {es : List (V × V × Nat)} {us : Array MapEntry}
    {a : Option (Nat × V)} (hes : EsR F r es us.toList) (h : findK d k es = some a) :
    (∀ em w, (Instr.checkKey em 10000 t uk).run P w = .ok () w) ∧ ∃ ua, (∀ w, (Instr.findKey t uk us.toList).run P w = .ok ua w) ∧
      (match a with | none => ua = none | some (j, v) => ∃ uv, ua = some (j, uv) ∧ VR F r v uv ∧ ∃ e, es[j]? = some e ∧ e.2.1 = v) := by
  unfold findK at h
  split at h
  · rename_i he
    obtain ⟨desc, hdesc⟩ : ∃ desc, P.underlying t = some desc := by
      cases hu : P.underlying t with
      | none => simp [eqDesc, hu] at hd
      | some desc => exact ⟨desc, rfl⟩
    obtain ⟨ua, h1, h2, h3⟩ := find_sound hd hdesc hk es us.toList 0 hes h
    refine ⟨fun em w => (checkKey_sound em 50).1 t d k uk 10000 hd he hk (by omega) w, ua, fun w => ?_, ?_⟩
    · simp only [Instr.findKey, Sem.run_bind, run_under hdesc, Result.andThen_ok]
      cases hn : Instr.findNow desc uk us.toList 0 with
      | none => exact h2 w
      | some x => rw [h1 x hn]; rfl
    · cases a with
      | none => exact h3
      | some p =>
        obtain ⟨uv, e1, e2, _, e, e3, e4⟩ := h3
        exact ⟨uv, e1, e2, e, by simpa using e3, e4⟩
  · cases h

theorem ObjR.map_inv {es clock N} {o : Obj} (h : ObjR K F r N (.map es clock) o) : ∃ us : Array MapEntry, o = .map us clock ∧ EsR F r es us.toList := by
  cases h with | map h1 h2 =>
  exact ⟨_, rfl, by simpa using h1, fun i a b => by simpa only [Array.getElem_toList] using h2 i a (by simpa using b)⟩
theorem ObjR.of_map {es clock N} {us : Array MapEntry} (h : EsR F r es us.toList) : ObjR K F r N (.map es clock) (.map us clock) :=
  .map (by simpa using h.1) fun i a b => h.2 i a (by simpa using b)

theorem run_setMap {b : Nat} {us : Array MapEntry} {clock : Nat} (h : w.heap[b]? = some (.map us clock)) (o : Obj) : (setObj b o).run P w = .ok () (putB w b o) := by
  simp [setObj, Sem.run, h, putB]
theorem run_getMap {b : Nat} {us : Array MapEntry} {clock : Nat} (h : w.heap[b]? = some (.map us clock)) : (getObj b).run P w = .ok (.map us clock) w := by
  simp [getObj, Sem.run, h]

theorem look_sound {t kt e : TypeId} {d : EqD} {zero x k v : V} {ok : Bool} {es : List (V × V × Nat)} {ux uk : Value} {a : Option (Nat × V)} (hs : Sim K F r m w)
    (ht : P.underlying t = some (.map kt e)) (hd : eqDesc P false 50 kt = some d) (hz : zeroT P e = some zero) (hx : VR F r x ux) (hk : VR F r k uk)
    (hes : mapOf m x = some es) (hf : findK d k es = some a)
    (hv : v = (match a with | some (_, v) => if ok then .tup [v, .bool true] else v | none => if ok then .tup [zero, .bool false] else zero)) :
    OpS K P F r m w (Instr.lookup t ux uk ok) v m := by
  obtain ⟨us, her, core⟩ : ∃ us : Array MapEntry, EsR F r es us.toList ∧ ∀ res, (do
        Instr.checkKey us.isEmpty 10000 kt uk
        let (v, ok') ← match ← Instr.findKey kt uk us.toList with
          | some (_, v) => pure (v, true)
          | none => pure (← zeroValue e, false)
        pure (if ok then .tuple #[v, .bool ok'] else v) : Sem Value).run P w = .ok res w → (Instr.lookup t ux uk ok).run P w = .ok res w := by
    cases x <;> simp only [mapOf, reduceCtorEq] at hes
    · cases hes; cases hx
      refine ⟨#[], ⟨rfl, fun i h1 => by cases h1⟩, fun res h => ?_⟩
      simp only [Instr.lookup, Sem.run_bind, run_under ht, Result.andThen_ok, Sem.run_pure] at h ⊢
      exact h
    · split at hes
      · rename_i c es' clock hc
        cases hes
        cases hx with | mp hr =>
        rename_i b N
        obtain ⟨b', N', o, h1, h2, h3, h4⟩ := hs.obj _ _ hc
        rw [hr] at h1; cases h1
        obtain ⟨us, rfl, her⟩ := h3.map_inv
        refine ⟨us, her, fun res h => ?_⟩
        simp only [Instr.lookup, Sem.run_bind, run_under ht, Result.andThen_ok, Sem.run_pure, run_getMap h2] at h ⊢
        exact h
      · cases hes
  obtain ⟨hck, ua, hfk, hrel⟩ := findK_sound hd hk her hf
  obtain ⟨uz, hz1, hz2⟩ := zeroT_sound hz
  cases a with
  | none =>
    subst hrel
    refine OpS.pure (u := if ok then .tuple #[uz, .bool false] else uz) hs ?_ ?_
    · refine core _ ?_
      simp only [Sem.run_bind, Result.andThen_ok, hck, hfk, hz1, Sem.run_pure]
    · subst hv
      cases ok
      · exact hz2 F r
      · refine .tup (by simp) fun i h1 h2 => ?_
        match i with
        | 0 => exact hz2 F r
        | 1 => exact .bool
        | i + 2 => simp at h1; omega
  | some p =>
    obtain ⟨uv, rfl, hvr, _⟩ := hrel
    refine OpS.pure (u := if ok then .tuple #[uv, .bool true] else uv) hs ?_ ?_
    · refine core _ ?_
      simp only [Sem.run_bind, Result.andThen_ok, hck, hfk, Sem.run_pure]
    · subst hv
      cases ok
      · exact hvr
      · refine .tup (by simp) fun i h1 h2 => ?_
        match i with
        | 0 => exact hvr
        | 1 => exact .bool
        | i + 2 => simp at h1; omega

/-- Whichever key stays. -/
theorem stays {k : V} {uo un : Value} (ho : VR F r k uo) (hn : VR F r k un) :
    ∃ uk w', (Instr.keyThatStays uo un).run P w = .ok uk w' ∧ VR F r k uk ∧ w'.heap = w.heap ∧ w'.os = w.os ∧ w'.output = w.output := by
  unfold Instr.keyThatStays
  split
  · exact ⟨un, w, rfl, hn, rfl, rfl, rfl⟩
  · simp only [Sem.run_bind, run_choose]
    split
    · refine ⟨un, w, ?_, hn, rfl, rfl, rfl⟩
      simp [Result.andThen_ok]
    · simp only [Result.andThen_ok, Sem.run_pure]
      split
      · exact ⟨un, _, rfl, hn, rfl, rfl, rfl⟩
      · exact ⟨uo, _, rfl, ho, rfl, rfl, rfl⟩

theorem putB_heap {w w' : World} (h : w'.heap = w.heap) (b : Nat) (o : Obj) : (putB w' b o).heap = (putB w b o).heap := by simp [putB, h]

theorem EsR.set {es : List (V × V × Nat)} {us : Array MapEntry} (h : EsR F r es us.toList) {i : Nat} {e : V × V × Nat} {f : MapEntry → MapEntry}
    (he : ∀ u, us[i]? = some u → VR F r e.1 (f u).key ∧ VR F r e.2.1 (f u).val ∧ e.2.2 = (f u).born) : EsR F r (es.set i e) (us.modify i f).toList := by
  have hl : es.length = us.size := by simpa using h.1
  refine ⟨by simp [hl], fun j h1 h2 => ?_⟩
  simp only [List.length_set] at h1
  simp only [Array.getElem_toList, Array.getElem_modify, List.getElem_set]
  by_cases hij : i = j
  · subst hij
    simp only [if_true]
    exact he _ (Array.getElem?_eq_getElem (by omega))
  · simp only [hij, if_false]
    have := h.2 j h1 (by simp; omega)
    simpa using this

theorem EsR.push {es : List (V × V × Nat)} {us : Array MapEntry} (h : EsR F r es us.toList) {e : V × V × Nat} {u : MapEntry}
    (he : VR F r e.1 u.key ∧ VR F r e.2.1 u.val ∧ e.2.2 = u.born) : EsR F r (es ++ [e]) (us.push u).toList := by
  have hl : es.length = us.size := by simpa using h.1
  refine ⟨by simp [hl], fun j h1 h2 => ?_⟩
  simp only [Array.toList_push]
  by_cases hj : j < es.length
  · have := h.2 j hj (by simp; omega)
    simpa [List.getElem_append, hj, show j < us.size by omega] using this
  · have : j = es.length := by simp at h1; omega
    subst this
    simpa [List.getElem_append, hl] using he

theorem EsR.erase {es : List (V × V × Nat)} {us : Array MapEntry} (h : EsR F r es us.toList) (i : Nat) : EsR F r (es.eraseIdx i) (us.eraseIdxIfInBounds i).toList := by
  have hl : es.length = us.size := by simpa using h.1
  have ht : (us.eraseIdxIfInBounds i).toList = us.toList.eraseIdx i := by
    simp
  rw [ht]
  refine ⟨by simp [List.length_eraseIdx, hl], fun j h1 h2 => ?_⟩
  simp only [List.getElem_eraseIdx]
  split
  · exact h.2 j _ _
  · exact h.2 (j + 1) _ _

theorem EsR.at {es : List (V × V × Nat)} {us : Array MapEntry} (h : EsR F r es us.toList) {i : Nat} {e} (he : es[i]? = some e) :
    ∃ u, us[i]? = some u ∧ VR F r e.1 u.key ∧ VR F r e.2.1 u.val ∧ e.2.2 = u.born := by
  obtain ⟨hi, rfl⟩ := List.getElem?_eq_some_iff.1 he
  have hl : es.length = us.size := by simpa using h.1
  refine ⟨us[i]'(by omega), Array.getElem?_eq_getElem (by omega), ?_⟩
  have := h.2 i hi (by simp; omega)
  simpa using this

theorem mupd_sound {t kt e : TypeId} {d : EqD} {k v : V} {c : Nat} {es : List (V × V × Nat)} {clock : Nat} {ux uk uv : Value} {m' : Mem} (hs : Sim K F r m w)
    (ht : P.underlying t = some (.map kt e)) (hd : eqDesc P false 50 kt = some d) (hx : VR F r (.mp c) ux) (hk : VR F r k uk) (hv : VR F r v uv)
    (hc : m.get c = some (.map es clock))
    (h : (match findK d k es with
        | some (some (i, _)) => match es[i]? with
          | some (k', _, born) => if V.eq k' k then some (undefV, m.set c (.map (es.set i (k', v, born)) clock)) else none
          | none => none
        | some none => some (undefV, m.set c (.map (es ++ [(k, v, clock)]) (clock + 1)))
        | none => none) = some (undefV, m')) : OpU K P F r m w (Instr.mapUpdate t ux uk uv) m' := by
  cases hx with | mp hr =>
  rename_i b N
  obtain ⟨b', N', o, h1, h2, h3, h4⟩ := hs.obj _ _ hc
  rw [hr] at h1; cases h1
  obtain ⟨us, rfl, her⟩ := h3.map_inv
  split at h
  · rename_i i v0 hf
    obtain ⟨hck, ua, hfk, uv0, rfl, hv0, e0, he0, _⟩ := findK_sound hd hk her hf
    rw [he0] at h
    simp only at h
    split at h
    · rename_i heq
      cases h
      obtain ⟨u0, hu0, hku, hvu, hbu⟩ := her.at he0
      have hkk := V.eq_sound _ _ heq
      obtain ⟨uk', w', hst, hvk, hw', hio'⟩ := stays (P := P) (w := w) (k := e0.1) hku (by rw [hkk]; exact hk)
      have h2' : w'.heap[b]? = some (.map us clock) := by rw [hw']; exact h2
      have hrun : (Instr.mapUpdate t (.map (some b)) uk uv).run P w = .ok () (putB w' b (.map (us.modify i fun e => { e with key := uk', val := uv }) clock)) := by
        simp only [Instr.mapUpdate, Sem.run_bind, run_under ht, Result.andThen_ok, run_getMap h2, hck, hfk, hu0, Option.map_some, Option.getD_some, hst, run_setMap h2']
      exact ⟨_, F, r, hrun, (hs.world hw').set hc hr (.of_map (her.set fun u hu => by rw [hu0] at hu; cases hu; exact ⟨hvk, hv, hbu⟩)), (St.world hw' hio').trans ((hs.world hw').st_set hc hr _ _)⟩
    · cases h
  · rename_i hf
    cases h
    obtain ⟨hck, ua, hfk, rfl⟩ := findK_sound hd hk her hf
    have hrun : (Instr.mapUpdate t (.map (some b)) uk uv).run P w = .ok () (putB w b (.map (us.push { key := uk, val := uv, born := clock }) (clock + 1))) := by
      simp only [Instr.mapUpdate, Sem.run_bind, run_under ht, Result.andThen_ok, run_getMap h2, hck, hfk, run_setMap h2]
    exact ⟨_, F, r, hrun, hs.set hc hr (.of_map (her.push ⟨hk, hv, rfl⟩)), hs.st_set hc hr _ _⟩
  · cases h

theorem ment_sound {t kt e : TypeId} {d : EqD} {zero k v : V} {c : Nat} {es : List (V × V × Nat)} {clock : Nat} {ux uk : Value} {m' : Mem} (hs : Sim K F r m w)
    (ht : P.underlying t = some (.map kt e)) (hd : eqDesc P false 50 kt = some d) (hz : zeroT P e = some zero) (hx : VR F r (.mp c) ux) (hk : VR F r k uk)
    (hc : m.get c = some (.map es clock))
    (h : (match findK d k es with
        | some (some (i, v)) => match es[i]? with
          | some (k', _, born) => if V.eq k' k then some (V.tup [v, .int .i64 born], m) else none
          | none => none
        | some none => some (.tup [zero, .int .i64 clock], m.set c (.map (es ++ [(k, zero, clock)]) (clock + 1)))
        | none => none) = some (v, m')) : OpS K P F r m w (Instr.mapEntry t ux uk) v m' := by
  cases hx with | mp hr =>
  rename_i b N
  obtain ⟨b', N', o, h1, h2, h3, h4⟩ := hs.obj _ _ hc
  rw [hr] at h1; cases h1
  obtain ⟨us, rfl, her⟩ := h3.map_inv
  obtain ⟨uz, hz1, hz2⟩ := zeroT_sound hz
  split at h
  · rename_i i v0 hf
    obtain ⟨hck, ua, hfk, uv0, rfl, hv0, e0, he0, hev⟩ := findK_sound hd hk her hf
    rw [he0] at h
    simp only at h
    split at h
    · rename_i heq
      cases h
      obtain ⟨u0, hu0, hku, hvu, hbu⟩ := her.at he0
      have hkk := V.eq_sound _ _ heq
      obtain ⟨uk', w', hst, hvk, hw', hio'⟩ := stays (P := P) (w := w) (k := e0.1) hku (by rw [hkk]; exact hk)
      have h2' : w'.heap[b]? = some (.map us clock) := by rw [hw']; exact h2
      have hrun : (Instr.mapEntry t (.map (some b)) uk).run P w = .ok (.tuple #[uv0, goInt u0.born]) (putB w' b (.map (us.modify i fun e => { e with key := uk' }) clock)) := by
        simp only [Instr.mapEntry, Sem.run_bind, run_under ht, Result.andThen_ok, run_getMap h2, hck, hfk, hu0, Option.map_some, Option.getD_some, hst, run_setMap h2', Sem.run_pure]
      have hes' : es.set i e0 = es := by
        obtain ⟨hi, rfl⟩ := List.getElem?_eq_some_iff.1 he0
        simp
      have hset := (hs.world hw').set (ch' := .map (es.set i e0) clock) (o := .map (us.modify i fun e => { e with key := uk' }) clock) hc hr
        (.of_map (her.set fun u hu => by rw [hu0] at hu; cases hu; exact ⟨hvk, hvu, hbu⟩))
      rw [hes'] at hset
      have hst' := (hs.world hw').st_set hc hr (.map es clock) (.map (us.modify i fun e => { e with key := uk' }) clock)
      refine ⟨_, _, F, r, hrun, ?_, ?_, ?_⟩
      · -- the same memory, laid anew
        refine ⟨hset.dom, fun c' ch hc' => ?_, fun c1 c2 ch1 ch2 b' N1 N2 g1 g2 => hs.inj c1 c2 ch1 ch2 b' N1 N2 g1 g2, hset.frz⟩
        refine hset.obj c' ch ?_
        by_cases hcc : c' = c
        · subst hcc
          rw [hc] at hc'; cases hc'
          exact Mem.get_set_same hc (by simp)
        · rw [Mem.get_set_other hcc (Mem.get_lt hc)]; exact hc'
      · refine (St.world hw' hio').trans ⟨hst'.size, Nat.le_refl _, hst'.keep, fun _ _ h => h, hst'.frz, hst'.leF, hst'.ler, fun _ _ h => ⟨h, rfl⟩, fun _ _ h => h, hst'.io⟩
      · refine .tup (by simp) fun j h1 h2 => ?_
        match j with
        | 0 => exact hv0
        | 1 => rw [show e0.2.2 = u0.born from hbu]; exact .int
        | j + 2 => simp at h1; omega
    · cases h
  · rename_i hf
    cases h
    obtain ⟨hck, ua, hfk, rfl⟩ := findK_sound hd hk her hf
    have hrun : (Instr.mapEntry t (.map (some b)) uk).run P w = .ok (.tuple #[uz, goInt clock]) (putB w b (.map (us.push { key := uk, val := uz, born := clock }) (clock + 1))) := by
      simp only [Instr.mapEntry, Sem.run_bind, run_under ht, Result.andThen_ok, run_getMap h2, hck, hfk, run_setMap h2, hz1, Sem.run_pure]
    refine ⟨_, _, F, r, hrun, hs.set hc hr (.of_map (her.push ⟨hk, hz2 F r, rfl⟩)), hs.st_set hc hr _ _, ?_⟩
    refine .tup (by simp) fun j h1 h2 => ?_
    match j with
    | 0 => exact hz2 F r
    | 1 => exact .int
    | j + 2 => simp at h1; omega
  · cases h

theorem mest_sound {t : TypeId} {v xs : V} {n : Int} {c i : Nat} {k0 v0 : V} {born : Nat} {es : List (V × V × Nat)} {clock : Nat} {ux us' uv : Value} (hs : Sim K F r m w)
    (hx : VR F r (.mp c) ux) (hxs : VR F r xs us') (hn : asN xs = some n) (hv : VR F r v uv) (hc : m.get c = some (.map es clock))
    (hi : es.findIdx? (fun e => decide ((e.2.2 : Int) = n)) = some i) (he : es[i]? = some (k0, v0, born)) :
    OpU K P F r m w (Instr.entryStore t ux us' uv) (m.set c (.map (es.set i (k0, v, born)) clock)) := by
  cases hx with | mp hr =>
  rename_i b N
  obtain ⟨b', N', o, h1, h2, h3, h4⟩ := hs.obj _ _ hc
  rw [hr] at h1; cases h1
  obtain ⟨us, rfl, her⟩ := h3.map_inv
  obtain ⟨u0, hu0, hku, hvu, hbu⟩ := her.at he
  obtain ⟨kk, rfl⟩ := asN_sound hn hxs
  have hfi : us.findIdx? (fun e => (e.born : Int) == n) = some i := by
    rw [show us.findIdx? (fun e => (e.born : Int) == n) = us.toList.findIdx? (fun e => (e.born : Int) == n) by cases us; simp]
    have : ∀ (es : List (V × V × Nat)) (us : List MapEntry), EsR F r es us → us.findIdx? (fun e => (e.born : Int) == n) = es.findIdx? (fun e => decide ((e.2.2 : Int) = n)) := by
      intro es
      induction es with
      | nil => intro us h; have : us = [] := by have := h.1; simp at this; exact List.eq_nil_of_length_eq_zero this.symm
               subst this; rfl
      | cons e es ih =>
        intro us h
        cases us with
        | nil => have := h.1; simp at this
        | cons u us =>
          rw [List.findIdx?_cons, List.findIdx?_cons, ih us h.tail, int_beq, h.head.2.2]
    rw [this _ _ her, hi]
  refine ⟨_, F, r, ?_, hs.set hc hr (.of_map (us := us.modify i fun e => { e with val := uv }) (her.set fun u hu => by rw [hu0] at hu; cases hu; exact ⟨hku, hv, hbu⟩)), hs.st_set hc hr _ _⟩
  simp only [Instr.entryStore, Sem.run_bind, run_getMap h2, Result.andThen_ok, asInt, asIntOf, Sem.run_pure, hfi, run_setMap h2]

theorem mdel_sound {ts : Array TypeId} {t t0 kt e : TypeId} {d : EqD} {x k v : V} {ux uk : Value} {m' : Mem} (hs : Sim K F r m w) (h0 : ts[0]? = some t0)
    (ht : P.underlying t0 = some (.map kt e)) (hd : eqDesc P false 50 kt = some d) (hx : VR F r x ux) (hk : VR F r k uk)
    (h : (match (generalizing := false) x with
    | .mp c => match m.get c with
      | some (.map es clock) => match findK d k es with
        | some (some (i, _)) => some (undefV, m.set c (.map (es.eraseIdx i) clock))
        | some none => some (undefV, m.set c (.map es clock))
        | none => none
      | _ => none
    | .nilm => (match findK d k [] with | some _ => some (undefV, m) | none => none)
    | _ => none) = some (v, m')) : OpS K P F r m w (Builtin.delete_ ts t #[ux, uk]) v m' := by
  have hu : VR F r undefV (.tuple #[]) := .tup rfl fun i h => by cases h
  cases x
  case mp c =>
    simp only at h
    split at h
    · rename_i es clock hc
      cases hx with | mp hr =>
      rename_i b N
      obtain ⟨b', N', o, h1, h2, h3, h4⟩ := hs.obj _ _ hc
      rw [hr] at h1; cases h1
      obtain ⟨us, rfl, her⟩ := h3.map_inv
      split at h
      · rename_i i v0 hf
        cases h
        obtain ⟨hck, ua, hfk, uv0, rfl, hv0, _⟩ := findK_sound hd hk her hf
        refine ⟨_, _, F, r, ?_, hs.set hc hr (.of_map (her.erase i)), hs.st_set hc hr _ _, hu⟩
        simp [Builtin.delete_, h0, run_under ht, Result.andThen_ok, run_getMap h2, hck, hfk, run_setMap h2]
      · rename_i hf
        cases h
        obtain ⟨hck, ua, hfk, rfl⟩ := findK_sound hd hk her hf
        refine ⟨_, _, F, r, ?_, hs.set hc hr (.of_map her), hs.st_set hc hr _ _, hu⟩
        simp [Builtin.delete_, h0, run_under ht, Result.andThen_ok, run_getMap h2, hck, hfk, run_setMap h2]
      · cases h
    · cases h
  case nilm =>
    cases hx
    simp only at h
    split at h
    · rename_i hf
      cases h
      obtain ⟨hck, _⟩ := findK_sound (us := #[]) hd hk ⟨rfl, fun i h => by cases h⟩ hf
      refine OpS.pure hs ?_ hu
      simp [Builtin.delete_, h0, run_under ht, Result.andThen_ok, hck]
    · cases h
  all_goals cases h

end
end Go.Proofs.YtjjgiigbhjfkaaaGreatDoor.Am

namespace Go.Proofs.YtjjgiigbhjfkaaaGreatDoor.Am
open Go

section
variable {K : CodeR} {F : Frz} {r : Loc} {m : Mem} {w : World} {P : Program} {G : Glob}

/-- An operation that goes on: a related value, or none at all. -/
def OpN (K : CodeR) (P : Program) (F : Frz) (r : Loc) (m : Mem) (w : World) (s : Sem Next) (v : V) (m' : Mem) : Prop :=
  ∃ w' F' r', Sim K F' r' m' w' ∧ St F r m w F' r' m' w' ∧ ((∃ u, s.run P w = .ok (.value u) w' ∧ VR F' r' v u) ∨ (s.run P w = .ok .skip w' ∧ v = undefV))

theorem OpS.toN {s : Sem Value} {v m'} (h : OpS K P F r m w s v m') : OpN K P F r m w (do Pure.pure (Next.value (← s)) : Sem Next) v m' := by
  obtain ⟨u, w', F', r', h1, h2, h3, h4⟩ := h
  exact ⟨w', F', r', h2, h3, .inl ⟨u, by simp only [Sem.run_bind, h1, Result.andThen_ok, Sem.run_pure], h4⟩⟩
theorem OpU.toN {s : Sem Unit} {m'} (h : OpU K P F r m w s m') : OpN K P F r m w (do s; Pure.pure Next.skip : Sem Next) undefV m' := by
  obtain ⟨w', F', r', h1, h2, h3⟩ := h
  exact ⟨w', F', r', h2, h3, .inr ⟨by simp only [Sem.run_bind, h1, Result.andThen_ok, Sem.run_pure], rfl⟩⟩

theorem map_pair {α : Type} {o : Option α} {f : α → V} {v : V} {m m' : Mem} (h : (o.map f).map (·, m) = some (v, m')) : m' = m ∧ ∃ x, o = some x ∧ f x = v := by
  cases o with
  | none => cases h
  | some x => simp only [Option.map_some, Option.some.injEq, Prod.mk.injEq] at h; exact ⟨h.2.symm, x, rfl, h.1⟩
theorem map_pair' {o : Option V} {v : V} {m m' : Mem} (h : o.map (·, m) = some (v, m')) : m' = m ∧ o = some v := by
  cases o with
  | none => cases h
  | some x => simp only [Option.map_some, Option.some.injEq, Prod.mk.injEq] at h; exact ⟨h.2.symm, by rw [h.1]⟩

theorem cXo_sound {a : List V} {ca : Act} (ha : VRs F r a ca.tmps) (hG : GlobOK F G) {x : Option Operand} {x' : Option X} (h : cXo G x = some x') :
    VRo F r (x'.map (X.ev a)) (x.map ca.eval) := by
  cases x with
  | none => cases h; exact trivial
  | some x =>
    simp only [cXo, Option.map_eq_some_iff] at h
    obtain ⟨y, hy, rfl⟩ := h
    exact cX_sound hy ha hG

theorem nilck_sound {x v : V} {u : Value} {m' : Mem} (hs : Sim K F r m w) (hx : VR F r x u) (h : (match (generalizing := false) x with | .nilp | .nili | .nilf => none | v => some (v, m)) = some (v, m'))
    (o : Oper) (ρ : Operand → Value) (y : Operand) (ho : o.op = .nilCheck y) (hy : ρ y = u) : OpN K P F r m w (execOp ρ o) v m' := by
  have key : v = x ∧ m' = m ∧ (execOp ρ o).run P w = .ok (.value u) w := by
    simp only [execOp, ho, hy]
    cases hx <;> simp only [reduceCtorEq, Option.some.injEq, Prod.mk.injEq] at h <;> exact ⟨h.1.symm, h.2.symm, rfl⟩
  obtain ⟨rfl, rfl, hr⟩ := key
  exact ⟨w, F, r, hs, .refl .., .inl ⟨u, hr, hx⟩⟩

theorem execOp_builtin {ρ : Operand → Value} {o : Oper} {b : Builtin} {args : Array Operand} {ts : Array TypeId} (ho : o.op = .call { callee := .builtin b, args := args, argTypes := ts }) :
    execOp ρ o = builtin b ts o.type (args.map fun | .const _ => true | _ => false) (args.map ρ) := by
  simp only [execOp, ho, resolve]
  rfl

theorem VRs.two {x y : V} {us : Array Value} (h : VRs F r [x, y] us) : ∃ ux uy, us = #[ux, uy] ∧ VR F r x ux ∧ VR F r y uy := by
  obtain ⟨h1, h2⟩ := h
  match us, h1 with
  | ⟨[ux, uy]⟩, _ => exact ⟨ux, uy, rfl, h2 0 (by simp) (by simp), h2 1 (by simp) (by simp)⟩
theorem VRs.one {x : V} {us : Array Value} (h : VRs F r [x] us) : ∃ ux, us = #[ux] ∧ VR F r x ux := by
  obtain ⟨h1, h2⟩ := h
  match us, h1 with
  | ⟨[ux]⟩, _ => exact ⟨ux, rfl, h2 0 (by simp) (by simp)⟩

theorem builtin_sound {b : Builtin} {ts : Array TypeId} {args : Array Operand} {io : IOp} {a : List V} {ca : Act} {v : V} {m' : Mem} {t : TypeId} {cs : Array Bool}
    (hs : Sim K F r m w) (ha : VRs F r a ca.tmps) (hG : GlobOK F G) (h : cBuiltin P G b ts args.toList = some io) (hr : io.run a m = some (v, m')) :
    OpN K P F r m w (builtin b ts t cs (args.map ca.eval)) v m' := by
  have hargs : args.map ca.eval = ⟨args.toList.map ca.eval⟩ := by rw [← Array.toList_map]
  unfold cBuiltin at h
  split at h
  · -- len
    rename_i x hx
    have hv := cXs_sound ha hG hx
    rw [← hargs] at hv
    obtain ⟨u, hu, hvx⟩ := hv.one
    rw [hu]
    split at h
    · rename_i t0 ht0
      split at h
      · rename_i hd; cases h
        obtain ⟨rfl, hl⟩ := map_pair' hr
        generalize x.ev a = xv at hvx hl
        cases xv <;> simp only [lenV, reduceCtorEq, Option.some.injEq] at hl
        subst hl
        exact (len_str hs ht0 hd hvx).toN
      · rename_i hd; cases h
        obtain ⟨rfl, hl⟩ := map_pair' hr
        exact (len_sl hs ht0 hd hvx hl).toN
      · rename_i hd; cases h
        obtain ⟨rfl, hl⟩ := map_pair' hr
        exact (len_map hs ht0 hd hvx hl).toN
      · rename_i hd; cases h
        simp only [IOp.run, lenV, Option.map_some, Option.some.injEq, Prod.mk.injEq] at hr
        obtain ⟨rfl, rfl⟩ := hr
        exact (len_const hs ht0 hd).toN
      · rename_i hd
        split at h
        · rename_i hd'; cases h
          simp only [IOp.run, lenV, Option.map_some, Option.some.injEq, Prod.mk.injEq] at hr
          obtain ⟨rfl, rfl⟩ := hr
          exact (len_ptr hs ht0 hd hd').toN
        · cases h
      · cases h
    · cases h
  · -- append
    rename_i s x hx
    have hv := cXs_sound ha hG hx
    rw [← hargs] at hv
    obtain ⟨us, ux, hu, hvs, hvx⟩ := hv.two
    rw [hu]
    split at h
    · rename_i t0 t1 ht0 ht1
      have key : ∀ e d n b zs, P.underlying t0 = some (.slice e) → P.underlying t1 = some d → (∀ k, d ≠ .int k) → sizeT P e = some n → bytesT P e = some b → zerosT P e = some zs →
          (if n = 0 || b = 0 then none else some (IOp.app e n b s x)) = some io → OpN K P F r m w (builtin .append ts t cs #[us, ux]) v m' := by
        intro e d n b zs h0 h1 hd hn hb hz h
        split at h
        · cases h
        · rename_i hnb
          cases h
          simp only [Bool.or_eq_true, decide_eq_true_eq, not_or] at hnb
          exact (app_sound hs ⟨⟨_, ht0, h0⟩, ⟨_, _, ht1, h1, hd⟩, hn, hb, ⟨_, hz⟩, hnb.1, hnb.2⟩ hvs hvx hr).toN
      split at h
      · rename_i e e' h0 h1
        split at h
        · rename_i n b zs hn hb hz
          exact key e _ n b zs h0 h1 (by intro k hk; cases hk) hn hb hz h
        · cases h
      · rename_i e h0 h1
        split at h
        · rename_i n b zs hn hb hz
          exact key e _ n b zs h0 h1 (by intro k hk; cases hk) hn hb hz h
        · cases h
      · cases h
    · cases h
  · -- copy
    rename_i d s hx
    have hv := cXs_sound ha hG hx
    rw [← hargs] at hv
    obtain ⟨ud, us, hu, hvd, hvs⟩ := hv.two
    rw [hu]
    split at h
    · rename_i t0 ht0
      split at h
      · rename_i e h0
        simp only [Option.map_eq_some_iff] at h
        obtain ⟨n, hn, rfl⟩ := h
        exact (copy_sound hs ht0 h0 hn hvd hvs hr).toN
      · cases h
    · cases h
  · -- delete
    rename_i x k hx
    have hv := cXs_sound ha hG hx
    rw [← hargs] at hv
    obtain ⟨ux, uk, hu, hvx, hvk⟩ := hv.two
    rw [hu]
    split at h
    · rename_i t0 ht0
      split at h
      · rename_i kt e h0
        simp only [Option.map_eq_some_iff] at h
        obtain ⟨d, hd, rfl⟩ := h
        exact (mdel_sound hs ht0 h0 hd hvx hvk hr).toN
      · cases h
    · cases h
  · rename_i x y hx
    have hv := cXs_sound ha hG hx
    rw [← hargs] at hv
    obtain ⟨ux, uy, hu, hvx, hvy⟩ := hv.two
    rw [hu]
    cases h
    simp only [IOp.run] at hr
    split at hr
    · rename_i k p k' q h1 h2
      cases hr
      rw [h1] at hvx; rw [h2] at hvy
      exact (mn_sound hs hvx hvy).toN
    · cases hr
  · rename_i x y hx
    have hv := cXs_sound ha hG hx
    rw [← hargs] at hv
    obtain ⟨ux, uy, hu, hvx, hvy⟩ := hv.two
    rw [hu]
    cases h
    simp only [IOp.run] at hr
    split at hr
    · rename_i k p k' q h1 h2
      cases hr
      rw [h1] at hvx; rw [h2] at hvy
      exact (mx_sound hs hvx hvy).toN
    · cases hr
  · cases h

theorem cBin_sound {op : BinOp} {t : TypeId} {px py : Operand} {io : IOp} {a : List V} {ca : Act} {v : V} {m' : Mem} (hs : Sim K F r m w) (ha : VRs F r a ca.tmps) (hG : GlobOK F G)
    (h : cBin P G op t px py = some io) (hr : io.run a m = some (v, m')) :
    OpS K P F r m w (do eqGuard op t px py (ca.eval px) (ca.eval py); binOp op t (ca.eval px) (ca.eval py)) v m' := by
  unfold cBin at h
  split at h
  · rename_i x y hx hy
    have vx := cX_sound hx ha hG
    have vy := cX_sound hy ha hG
    have bin : io = .bin op x y → OpS K P F r m w (do eqGuard op t px py (ca.eval px) (ca.eval py); binOp op t (ca.eval px) (ca.eval py)) v m' := by
      rintro rfl
      obtain ⟨rfl, hl⟩ := map_pair' hr
      exact bin_sound hs hl vx vy
    have eqd : ∀ neg nil d, io = .eqd neg d x y → ((neg = false ∧ op = .eql) ∨ (neg = true ∧ op = .neq)) → eqDesc P nil 50 t = some d → d ≠ .int → d ≠ .str →
        (d = .iface → (isK px || isK py) = true) → (∀ ds, d = .struct ds → P.eqGuardType P.depth t = false) →
        OpS K P F r m w (do eqGuard op t px py (ca.eval px) (ca.eval py); binOp op t (ca.eval px) (ca.eval py)) v m' := by
      rintro neg nil d rfl h1 h2 h3 h4 h5 h6
      simp only [IOp.run] at hr
      obtain ⟨rfl, b, hb, rfl⟩ := (by
        cases hb : eqV d (x.ev a) (y.ev a) with
        | none => simp [hb] at hr
        | some b => simp only [hb, Option.map_some, Option.some.injEq, Prod.mk.injEq] at hr; exact ⟨hr.2.symm, b, rfl, hr.1⟩ : m' = m ∧ ∃ b, eqV d (x.ev a) (y.ev a) = some b ∧ V.bool (if neg then !b else b) = v)
      exact eqd_sound hs h1 h2 h3 h4 h5 h6 hb vx vy
    split at h
    · cases h; exact bin rfl
    · cases h; exact bin rfl
    · rename_i ms ht
      have hd : eqDesc P true 50 t = some .iface := by simp [eqDesc, ht]
      split at h
      · rename_i hk
        split at h
        · cases h; exact eqd _ true _ rfl (.inl ⟨rfl, rfl⟩) hd (by simp) (by simp) (fun _ => hk) (fun ds hds => by cases hds)
        · cases h; exact eqd _ true _ rfl (.inr ⟨rfl, rfl⟩) hd (by simp) (by simp) (fun _ => hk) (fun ds hds => by cases hds)
        · cases h
      · cases h
    · rename_i fs ht
      split at h
      · cases h
      · rename_i hg
        have hsd : ∀ d, eqDesc P false 50 t = some d → ∃ ds, d = .struct ds := by
          intro d hd
          simp only [eqDesc, ht] at hd
          split at hd
          · cases hd
          · simp only [Option.map_eq_some_iff] at hd
            obtain ⟨ds, _, rfl⟩ := hd
            exact ⟨ds, rfl⟩
        split at h
        · rename_i d hd; cases h
          obtain ⟨ds, rfl⟩ := hsd _ hd
          exact eqd _ false _ rfl (.inl ⟨rfl, rfl⟩) hd (by simp) (by simp) (fun h => by cases h) (fun ds hds => by simpa using hg)
        · rename_i d hd; cases h
          obtain ⟨ds, rfl⟩ := hsd _ hd
          exact eqd _ false _ rfl (.inr ⟨rfl, rfl⟩) hd (by simp) (by simp) (fun h => by cases h) (fun ds hds => by simpa using hg)
        · cases h
    · rename_i desc h1 h2 h3 h4 ht
      have hsd : ∀ d, eqDesc P true 50 t = some d → d ≠ .int ∧ d ≠ .str ∧ d ≠ .iface ∧ ∀ ds, d ≠ .struct ds := by
        intro d hd
        simp only [eqDesc, ht] at hd
        cases desc <;> simp only [if_true, Option.some.injEq, reduceCtorEq] at hd <;>
          first
          | exact absurd rfl (h1 _)
          | exact absurd rfl h2
          | exact absurd rfl (h3 _)
          | exact absurd rfl (h4 _)
          | (subst hd; exact ⟨by simp, by simp, by simp, by simp⟩)
      split at h
      · rename_i d hd; cases h
        obtain ⟨a1, a2, a3, a4⟩ := hsd _ hd
        exact eqd _ true _ rfl (.inl ⟨rfl, rfl⟩) hd a1 a2 (fun h => absurd h a3) (fun ds h => absurd h (a4 ds))
      · rename_i d hd; cases h
        obtain ⟨a1, a2, a3, a4⟩ := hsd _ hd
        exact eqd _ true _ rfl (.inr ⟨rfl, rfl⟩) hd a1 a2 (fun h => absurd h a3) (fun ds h => absurd h (a4 ds))
      · cases h
    · cases h
  · cases h

theorem cConv_sound {s d : TypeId} {p : Operand} {io : IOp} {a : List V} {ca : Act} {v : V} {m' : Mem} (hs : Sim K F r m w) (ha : VRs F r a ca.tmps) (hG : GlobOK F G)
    (h : cConv P G s d p = some io) (hr : io.run a m = some (v, m')) : OpS K P F r m w (convert s d (ca.eval p)) v m' := by
  unfold cConv at h
  split at h
  · cases h
  · rename_i x hx
    have vx := cX_sound hx ha hG
    split at h
    · rename_i k' k h1 h2
      cases h
      simp only [IOp.run] at hr
      cases hn : asN (x.ev a) with
      | none => simp [hn] at hr
      | some n =>
        simp only [hn, Option.map_some, Option.some.injEq, Prod.mk.injEq] at hr
        obtain ⟨rfl, rfl⟩ := hr
        exact conv_sound hs h1 h2 hn vx
    · rename_i h1 h2
      cases h
      simp only [IOp.run] at hr
      split at hr
      · rename_i t ht
        cases hr
        rw [ht] at vx
        exact same_sound hs h1 h2 vx
      · cases hr
    · rename_i e h1 h2
      split at h
      · rename_i h3 h4
        cases h
        simp only [IOp.run] at hr
        split at hr
        · rename_i t ht
          split at hr
          · rename_i hl
            cases hr
            rw [ht] at vx
            have vx' := vx
            generalize hu : ca.eval p = u at vx vx'
            cases vx with | str hb =>
            rename_i b
            obtain ⟨u', w', F', r', g1, g2⟩ := s2b_sound (P := P) (e := e) hs vx' hl rfl
            refine ⟨u', w', F', r', ?_, g2⟩
            simp only [convert, Sem.run_bind, run_under h1, run_under h2, Result.andThen_ok, run_under h3]
            exact g1
          · cases hr
        · cases hr
      · cases h
    · rename_i e h1 h2
      split at h
      · rename_i h3
        cases h
        simp only [IOp.run] at hr
        split at hr
        · rename_i n cs hsrc
          have hstr : ∀ t, x.ev a ≠ .str t := by
            intro t ht
            rw [ht] at hr
            cases hr
          obtain ⟨s', hbs, hv⟩ : ∃ s', bytesOf cs = some s' ∧ some (V.str s', m) = some (v, m') := by
            cases hb : bytesOf cs with
            | none => rw [hb] at hr; split at hr <;> cases hr
            | some s' => rw [hb] at hr; refine ⟨s', rfl, ?_⟩; split at hr
                         · cases hr
                         · exact hr
          cases hv
          obtain ⟨u', w', F', r', g1, g2⟩ := b2s_sound (P := P) hs vx hsrc hstr hbs
          refine ⟨u', w', F', r', ?_, g2⟩
          have hcv : (convert s d (ca.eval p)).run P w = (Conv.bytesToString (ca.eval p)).run P w := by
            simp only [convert, Sem.run_bind, run_under h1, run_under h2, Result.andThen_ok]
            generalize x.ev a = xv at vx hsrc hstr
            generalize ca.eval p = u at vx
            cases vx <;> simp only [srcCells, reduceCtorEq] at hsrc <;> first
              | exact absurd rfl (hstr _)
              | simp only [Sem.run_bind, run_under h3, Result.andThen_ok]
          rw [hcv]; exact g1
        · cases hr
      · cases h
    · cases h

end
end Go.Proofs.YtjjgiigbhjfkaaaGreatDoor.Am

namespace Go.Proofs.YtjjgiigbhjfkaaaGreatDoor.Am
open Go

section
variable {K : CodeR} {F : Frz} {r : Loc} {m : Mem} {w : World} {P : Program} {G : Glob}

theorem execOp_val {ρ : Operand → Value} {o : Oper} {s : Sem Value} {v : V} {m' : Mem} (h : execOp ρ o = (do Pure.pure (Next.value (← s)))) (hs : OpS K P F r m w s v m') :
    OpN K P F r m w (execOp ρ o) v m' := by rw [h]; exact hs.toN
theorem execOp_unit {ρ : Operand → Value} {o : Oper} {s : Sem Unit} {v : V} {m' : Mem} (h : execOp ρ o = (do s; Pure.pure Next.skip)) (hv : v = undefV) (hs : OpU K P F r m w s m') :
    OpN K P F r m w (execOp ρ o) v m' := by rw [h, hv]; exact hs.toN

/-- Each compiled operation answers as the model's. -/
theorem op_sound {o : Oper} {io : IOp} {a : List V} {ca : Act} {v : V} {m' : Mem} (hs : Sim K F r m w) (ha : VRs F r a ca.tmps) (hG : GlobOK F G) (h : cOp P G o = some io)
    (hr : io.run a m = some (v, m')) : OpN K P F r m w (execOp ca.eval o) v m' := by
  unfold cOp at h
  split at h
  · -- move
    rename_i x ho
    simp only [Option.map_eq_some_iff] at h
    obtain ⟨y, hy, rfl⟩ := h
    cases hr
    exact ⟨w, F, r, hs, .refl .., .inl ⟨_, by simp only [execOp, ho, Sem.run_pure], cX_sound hy ha hG⟩⟩
  · -- assign
    rename_i x ho
    simp only [Option.map_eq_some_iff] at h
    obtain ⟨y, hy, rfl⟩ := h
    cases hr
    exact ⟨w, F, r, hs, .refl .., .inl ⟨_, by simp only [execOp, ho, Sem.run_pure], cX_sound hy ha hG⟩⟩
  · -- pick
    rename_i pc pa pb ho
    split at h
    · rename_i c x y hc hx hy
      cases h
      have vc := cX_sound hc ha hG
      simp only [IOp.run] at hr
      split at hr
      · rename_i b hb
        cases hr
        rw [hb] at vc
        have hcv : ca.eval pc = .bool b := by generalize ca.eval pc = u at vc; cases vc; rfl
        refine ⟨w, F, r, hs, .refl .., .inl ⟨if b = true then ca.eval pa else ca.eval pb, by simp only [execOp, ho, hcv, asBool, Sem.run_bind, Sem.run_pure, Result.andThen_ok], ?_⟩⟩
        cases b
        · exact cX_sound hy ha hG
        · exact cX_sound hx ha hG
      · cases hr
    · cases h
  · -- alloc
    rename_i t ho
    simp only [Option.map_eq_some_iff] at h
    obtain ⟨zs, hz, rfl⟩ := h
    cases hr
    exact execOp_val (by simp only [execOp, ho]) (alloc_sound hs hz)
  · -- box
    rename_i t x ho
    split at h
    · rename_i s y hsz hy
      cases h
      simp only [IOp.run] at hr
      split at hr
      · cases hr
        exact execOp_val (by simp only [execOp, ho]) (box_sound hs (cX_sound hy ha hG))
      · cases hr
    · cases h
  · -- build
    rename_i t ps ho
    split at h
    · rename_i zs pl hz hpl
      simp only [Option.map_eq_some_iff] at h
      obtain ⟨xs, hx, rfl⟩ := h
      simp only [IOp.run] at hr
      split at hr
      · rename_i cs hf
        cases hr
        exact execOp_val (by simp only [execOp, ho]) (build_sound hs ha hG hz hpl hx hf)
      · cases hr
    · cases h
  · -- buildSlice
    rename_i t ln ps ho
    split at h
    · rename_i e hd
      split at h
      · rename_i zs hz
        split at h
        · rename_i hn
          simp only [Option.map_eq_some_iff] at h
          obtain ⟨xs, hx, rfl⟩ := h
          simp only [IOp.run] at hr
          split at hr
          · rename_i cs hf
            cases hr
            exact execOp_val (by simp only [execOp, ho]) (buildS_sound hs ha hG hd hz hn hx hf)
          · cases hr
        · cases h
      · cases h
    · cases h
  · -- load
    rename_i t x ho
    split at h
    · rename_i ag sz y hag hsz hy
      cases h
      obtain ⟨rfl, hl⟩ := map_pair' hr
      exact execOp_val (by simp only [execOp, ho]) (loadV_sound hs hag hsz hl (cX_sound hy ha hG))
    · cases h
  · -- store
    rename_i t x y ho
    split at h
    · rename_i sz x' y' hsz hx hy
      cases h
      simp only [IOp.run] at hr
      cases hst : storeV m sz (x'.ev a) (y'.ev a) with
      | none => simp [hst] at hr
      | some m1 =>
        simp only [hst, Option.map_some, Option.some.injEq, Prod.mk.injEq] at hr
        obtain ⟨rfl, rfl⟩ := hr
        exact execOp_unit (by simp only [execOp, ho]) rfl (storeV_sound hs hsz hst (cX_sound hx ha hG) (cX_sound hy ha hG))
    · cases h
  · -- nilCheck
    rename_i x ho
    simp only [Option.map_eq_some_iff] at h
    obtain ⟨y, hy, rfl⟩ := h
    exact nilck_sound hs (cX_sound hy ha hG) hr o ca.eval x ho rfl
  · -- binOp
    rename_i op t x y ty ho
    exact execOp_val (by simp only [execOp, ho]) (cBin_sound hs ha hG h hr)
  · -- unOp
    rename_i op t x ho
    simp only [Option.map_eq_some_iff] at h
    obtain ⟨y, hy, rfl⟩ := h
    obtain ⟨rfl, hl⟩ := map_pair' hr
    exact execOp_val (by simp only [execOp, ho]) (un_sound hs hl (cX_sound hy ha hG))
  · -- convert
    rename_i s d x ho
    exact execOp_val (by simp only [execOp, ho]) (cConv_sound hs ha hG h hr)
  · -- makeInterface
    rename_i t x ho
    split at h
    · cases h
    · rename_i d hni hd
      simp only [Option.map_eq_some_iff] at h
      obtain ⟨y, hy, rfl⟩ := h
      cases hr
      exact execOp_val (by simp only [execOp, ho]) (mkif_sound hs hd (fun ms h => hni _ h) (cX_sound hy ha hG))
    · cases h
  · -- makeFunc
    rename_i f first caps ho
    split at h
    · rename_i hfirst
      simp only [Option.map_eq_some_iff] at h
      obtain ⟨xs, hx, rfl⟩ := h
      cases hr
      have hv := cXs_sound ha hG hx
      have hf0 : first = #[] := by simpa [Array.isEmpty_iff] using hfirst
      subst hf0
      have hcaps : caps.map ca.eval = ⟨caps.toList.map ca.eval⟩ := by rw [← Array.toList_map]
      have hm : (Instr.makeFunc (.func f) #[] (caps.map ca.eval)).run P w = .ok (.func (.func f) #[] (caps.map ca.eval)) w := by
        simp [Instr.makeFunc]
      refine execOp_val (by simp only [execOp, ho, Array.map_empty]) (OpS.pure hs hm ?_)
      rw [hcaps]
      exact .fn hv.1 hv.2
    · cases h
  · -- makeMap
    rename_i t ho
    cases h; cases hr
    exact execOp_val (by simp only [execOp, ho, Option.map_none]) (mkmap_sound (t := t) hs)
  · -- makeSlice
    rename_i t l c ho
    split at h
    · rename_i e hd
      split at h
      · rename_i zs b xl xc hz hb hl hc
        cases h
        simp only [IOp.run] at hr
        split at hr
        · rename_i nl nc hnl hnc
          split at hr
          · rename_i hcond
            cases hr
            exact execOp_val (by simp only [execOp, ho]) (mksl_sound hs hd hz hb hnl hnc (cX_sound hl ha hG) (cX_sound hc ha hG) hcond)
          · cases hr
        · cases hr
      · cases h
    · cases h
  · -- slice
    rename_i t x lo hi mx ho
    split at h
    · rename_i x' lo' hi' mx' hx hlo hhi hmx
      have vx := cX_sound hx ha hG
      have vlo := cXo_sound ha hG hlo
      have vhi := cXo_sound ha hG hhi
      have vmx := cXo_sound ha hG hmx
      split at h
      · rename_i hd
        cases h
        simp only [IOp.run] at hr
        split at hr
        · cases hr
        · obtain ⟨rfl, hl⟩ := map_pair' hr
          generalize x'.ev a = xv at vx hl
          cases xv <;> simp only [sliceV, reduceCtorEq] at hl
          split at hl
          · rename_i l h' hm hb
            cases hl
            rw [hm] at vmx
            have hmx0 : mx.map ca.eval = none := by
              cases mx with
              | none => rfl
              | some q => simp only [Option.map_some, VRo] at vmx
            exact execOp_val (by simp only [execOp, ho, hmx0]) (slice_str hs hd vx vlo vhi hb)
          · cases hl
      · rename_i e hd
        simp only [Option.map_eq_some_iff] at h
        obtain ⟨s, hsz, rfl⟩ := h
        simp only [IOp.run] at hr
        split at hr
        · cases hr
        · obtain ⟨rfl, hl⟩ := map_pair' hr
          exact execOp_val (by simp only [execOp, ho]) (slice_sl hs hd hsz vx vlo vhi vmx hl)
      · rename_i n e hd
        simp only [Option.map_eq_some_iff] at h
        obtain ⟨s, hsz, rfl⟩ := h
        simp only [IOp.run] at hr
        split at hr
        · cases hr
        · rename_i hok
          obtain ⟨rfl, hl⟩ := map_pair' hr
          refine execOp_val (by simp only [execOp, ho]) (slice_arr hs hd hsz vx vlo vhi vmx hl ?_)
          intro c off b N hc hrc
          rw [hc] at hok
          simp only [slOk] at hok
          split at hok
          · rename_i e' cs ro hg
            obtain ⟨b', N', o', h1, h2, h3, h4⟩ := hs.obj _ _ hg
            rw [hrc] at h1; cases h1
            obtain ⟨C, fr, rfl, hN, hw, _⟩ := h3.win
            have := hw.1
            simp only [decide_eq_false_iff_not, Bool.not_eq_false, decide_eq_true_eq] at hok
            omega
          · simp at hok
      · cases h
    · cases h
  · -- fieldAddr
    rename_i s x f ho
    split at h
    · rename_i fs y hd hy
      split at h
      · rename_i fl hf
        split at h
        · rename_i n hn
          split at h
          · cases h
          · rename_i hn0
            cases h
            have key : m' = m ∧ (match (generalizing := false) y.ev a with | .ptr c o => some (V.ptr c (o + fl.offset)) | .fp cs o => some (.fp cs (o + fl.offset)) | _ => none) = some v := by
              simp only [IOp.run] at hr
              generalize y.ev a = yv at hr
              cases yv <;> simp only [reduceCtorEq, Option.some.injEq, Prod.mk.injEq] at hr ⊢ <;> exact ⟨hr.2.symm, hr.1⟩
            obtain ⟨rfl, hv⟩ := key
            exact execOp_val (by simp only [execOp, ho]) (faddr_sound hs hd hf hn hn0 (cX_sound hy ha hG) hv)
        · cases h
      · cases h
    · cases h
  · -- field
    rename_i s x f ho
    split at h
    · rename_i fs y hd hy
      split at h
      · rename_i fl hf
        split at h
        · rename_i n ag hn hag
          cases h
          simp only [IOp.run] at hr
          have vy := cX_sound hy ha hG
          split at hr
          · rename_i cs hcs
            rw [hcs] at vy
            obtain ⟨rfl, hl⟩ := map_pair' hr
            exact execOp_val (by simp only [execOp, ho]) (fld_sound hs hd hf hn hag vy hl)
          · cases hr
        · cases h
      · cases h
    · cases h
  · -- indexAddr
    rename_i t x i ho
    split at h
    · rename_i e y j hd hy hj
      simp only [Option.map_eq_some_iff] at h
      obtain ⟨s, hsz, rfl⟩ := h
      obtain ⟨rfl, hl⟩ := map_pair' hr
      exact execOp_val (by simp only [execOp, ho]) (iadr_slice hs hd hsz (cX_sound hy ha hG) (cX_sound hj ha hG) hl)
    · rename_i n e y j hd hy hj
      simp only [Option.map_eq_some_iff] at h
      obtain ⟨s, hsz, rfl⟩ := h
      obtain ⟨rfl, hl⟩ := map_pair' hr
      exact execOp_val (by simp only [execOp, ho]) (iadr_array hs hd hsz (cX_sound hy ha hG) (cX_sound hj ha hG) hl)
    · cases h
  · -- index
    rename_i t x i ho
    split at h
    · rename_i y j hd hy hj
      cases h
      simp only [IOp.run] at hr
      have vy := cX_sound hy ha hG
      split at hr
      · rename_i s n hsv hn
        rw [hsv] at vy
        split at hr
        · rename_i h0
          obtain ⟨rfl, b, hb, rfl⟩ := (by
            cases hb : s[n.toNat]? with
            | none => simp [hb] at hr
            | some b => simp only [hb, Option.map_some, Option.some.injEq, Prod.mk.injEq] at hr; exact ⟨hr.2.symm, b, rfl, hr.1⟩ : m' = m ∧ ∃ b, s[n.toNat]? = some b ∧ natB b = v)
          exact execOp_val (by simp only [execOp, ho]) (idxs_sound hs hd vy (cX_sound hj ha hG) hn h0 (by rw [hb]; rfl))
        · cases hr
      · cases hr
    · rename_i n e y j hd hy hj
      split at h
      · rename_i ag s hag hsz
        cases h
        simp only [IOp.run] at hr
        have vy := cX_sound hy ha hG
        split at hr
        · rename_i cs k hcs hn
          rw [hcs] at vy
          split at hr
          · rename_i h0
            obtain ⟨rfl, hl⟩ := map_pair' hr
            exact execOp_val (by simp only [execOp, ho]) (idxa_sound hs hd hag hsz vy (cX_sound hj ha hG) hn h0 hl)
          · cases hr
        · cases hr
      · cases h
    · cases h
  · -- lookup
    rename_i t x k ok ho
    split at h
    · rename_i kt e y j hd hy hj
      split at h
      · rename_i d z hde hz
        cases h
        simp only [IOp.run] at hr
        split at hr
        · rename_i es hes
          split at hr
          · rename_i i v0 hf
            cases hr
            exact execOp_val (by simp only [execOp, ho]) (look_sound hs hd hde hz (cX_sound hy ha hG) (cX_sound hj ha hG) hes hf rfl)
          · rename_i hf
            cases hr
            exact execOp_val (by simp only [execOp, ho]) (look_sound hs hd hde hz (cX_sound hy ha hG) (cX_sound hj ha hG) hes hf rfl)
          · cases hr
        · cases hr
      · cases h
    · cases h
  · -- mapUpdate
    rename_i t x k y ho
    split at h
    · rename_i kt e x' k' y' hd hx hk hy
      simp only [Option.map_eq_some_iff] at h
      obtain ⟨d, hde, rfl⟩ := h
      simp only [IOp.run] at hr
      have vx := cX_sound hx ha hG
      split at hr
      · rename_i c hc
        rw [hc] at vx
        split at hr
        · rename_i es clock hg
          have hv : v = undefV := by
            split at hr
            · split at hr
              · split at hr
                · cases hr; rfl
                · cases hr
              · cases hr
            · cases hr; rfl
            · cases hr
          subst hv
          exact execOp_unit (by simp only [execOp, ho]) rfl (mupd_sound hs hd hde vx (cX_sound hk ha hG) (cX_sound hy ha hG) hg hr)
        · cases hr
      · cases hr
    · cases h
  · -- insert
    rename_i t x k y ho
    split at h
    · rename_i kt e x' k' y' hd hx hk hy
      simp only [Option.map_eq_some_iff] at h
      obtain ⟨d, hde, rfl⟩ := h
      simp only [IOp.run] at hr
      have vx := cX_sound hx ha hG
      split at hr
      · rename_i c hc
        rw [hc] at vx
        split at hr
        · rename_i es clock hg
          have hv : v = undefV := by
            split at hr
            · split at hr
              · split at hr
                · cases hr; rfl
                · cases hr
              · cases hr
            · cases hr; rfl
            · cases hr
          subst hv
          exact execOp_unit (by simp only [execOp, ho]) rfl (mupd_sound hs hd hde vx (cX_sound hk ha hG) (cX_sound hy ha hG) hg hr)
        · cases hr
      · cases hr
    · cases h
  · -- mapEntry
    rename_i t x k ho
    split at h
    · rename_i kt e x' k' hd hx hk
      split at h
      · rename_i d z hde hz
        cases h
        simp only [IOp.run] at hr
        have vx := cX_sound hx ha hG
        split at hr
        · rename_i c hc
          rw [hc] at vx
          split at hr
          · rename_i es clock hg
            exact execOp_val (by simp only [execOp, ho]) (ment_sound hs hd hde hz vx (cX_sound hk ha hG) hg hr)
          · cases hr
        · cases hr
      · cases h
    · cases h
  · -- entryStore
    rename_i t x k y ho
    split at h
    · rename_i x' k' y' hx hk hy
      cases h
      simp only [IOp.run] at hr
      have vx := cX_sound hx ha hG
      split at hr
      · rename_i c n hc hn
        rw [hc] at vx
        split at hr
        · rename_i es clock hg
          split at hr
          · rename_i i hi
            split at hr
            · rename_i k0 v0 born he
              cases hr
              exact execOp_unit (by simp only [execOp, ho]) rfl (mest_sound (t := t) hs vx (cX_sound hk ha hG) hn (cX_sound hy ha hG) hg hi he)
            · cases hr
          · cases hr
        · cases hr
      · cases hr
    · cases h
  · -- range
    rename_i t x ho
    split at h
    · rename_i y hd hy
      cases h
      simp only [IOp.run] at hr
      have vy := cX_sound hy ha hG
      split at hr
      · rename_i s hsv
        cases hr
        rw [hsv] at vy
        exact execOp_val (by simp only [execOp, ho]) (rngs_sound hs hd vy)
      · cases hr
    · rename_i k e y hd hy
      cases h
      exact execOp_val (by simp only [execOp, ho]) (rngm_sound hs hd (cX_sound hy ha hG) hr)
    · cases h
  · -- next
    rename_i it str ho
    cases str with
    | true =>
      simp only [if_true, Option.map_eq_some_iff] at h
      obtain ⟨y, hy, rfl⟩ := h
      simp only [IOp.run] at hr
      have vy := cX_sound hy ha hG
      split at hr
      · rename_i c hc
        rw [hc] at vy
        split at hr
        · rename_i s pos hg
          exact execOp_val (by simp only [execOp, ho]) (nexts_sound (t := o.type) hs vy hg hr)
        · cases hr
      · cases hr
    | false =>
      simp only [Bool.false_eq_true, if_false, Option.map_eq_some_iff] at h
      obtain ⟨y, hy, rfl⟩ := h
      exact execOp_val (by simp only [execOp, ho]) (nextm_sound (t := o.type) hs (cX_sound hy ha hG) hr)
  · -- extract
    rename_i x i ho
    simp only [Option.map_eq_some_iff] at h
    obtain ⟨y, hy, rfl⟩ := h
    simp only [IOp.run] at hr
    have vy := cX_sound hy ha hG
    split at hr
    · rename_i vs hvs
      rw [hvs] at vy
      obtain ⟨rfl, hl⟩ := map_pair' hr
      exact execOp_val (by simp only [execOp, ho]) (extr_sound hs vy hl)
    · cases hr
  · -- builtins
    rename_i b args ts ho
    rw [execOp_builtin ho]
    exact builtin_sound hs ha hG h hr
  · -- calls
    split at h
    · cases h; cases hr
    · cases h
  · -- panic
    simp only [Option.map_eq_some_iff] at h
    obtain ⟨y, hy, rfl⟩ := h
    cases hr
  · cases h

end
end Go.Proofs.YtjjgiigbhjfkaaaGreatDoor.Am
