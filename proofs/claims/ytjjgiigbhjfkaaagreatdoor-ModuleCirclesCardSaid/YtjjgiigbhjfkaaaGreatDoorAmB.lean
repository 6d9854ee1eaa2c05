/- An executable abstract machine for the model's code and the proof that what it answers the program answers (part 2); no condition. -/
import Derived.Test.YtjjgiigbhjfkaaaGreatDoorAmA
import Derived.Laws.NewFold
import Derived.RangeFuncRecord
import Derived.RangeFuncCalls
import Derived.OrdersIn
import Derived.ChangeSame
import Derived.Laws.Externs
import Derived.Lib.Bytealg
set_option linter.unusedSimpArgs false
set_option linter.unusedVariables false
namespace Go.Proofs.YtjjgiigbhjfkaaaGreatDoor.Am
open Go

/- The operations that lay a new block and look at no memory: the block may be laid under any free number. -/
section
variable {K : CodeR} {F : Frz} {r : Loc} {m : Mem} {w : World} {P : Program} {G : Glob}

theorem Loc.le_put_none {r : Loc} {c : Nat} {x} (h : r c = none) : r.le (r.put c x) := fun c' y hy => by
  by_cases hc : c' = c
  · subst hc; rw [h] at hy; cases hy
  · rw [Loc.put_other hc]; exact hy

def AOp (K : CodeR) (P : Program) (F : Frz) (r : Loc) (w : World) (s : Sem Value) (mk : Nat → V) (ch : Chunk) : Prop :=
  ∃ (u : Value) (o : Obj) (N : Nat) (w0 : World), (w0.heap = w.heap ∧ w0.os = w.os ∧ w0.output = w.output) ∧ s.run P w = .ok u (w0.alloc o) ∧
    ∀ c, r c = none → ObjR K F (r.put c (w.heap.size, N)) N ch o ∧ VR F (r.put c (w.heap.size, N)) (mk c) u

theorem objR_put {vs : List V} {us : Array Value} {e c : Nat} {x} (h : VRs F r vs us) (hc : r c = none) : ObjR K F (r.put c x) us.size (.cells e vs false) (.cells us e) :=
  VRs.objR (h.mono (Frz.le_refl _) (Loc.le_put_none hc))

theorem alloc_A {t : TypeId} {zs : List V} (hz : zerosT P t = some zs) : AOp K P F r w (Instr.alloc t true (.tuple #[])) (fun c => .ptr c 0) (.cells t zs false) := by
  obtain ⟨u, h1, h2, _⟩ := zerosT_sound hz
  refine ⟨.pointer (some ⟨w.heap.size, 0, none⟩), .cells u.cells t, u.cells.size, w, ⟨rfl, rfl, rfl⟩, ?_, fun c hc => ⟨objR_put (h2 F r) hc, .ptr (Loc.put_same ..)⟩⟩
  simp only [Instr.alloc, Sem.run_bind, h1, Result.andThen_ok, newVar, newRow, run_newObj_alloc, Sem.run_pure]

theorem box_A {t : TypeId} {v : V} {u : Value} (hv : VR F r v u) : AOp K P F r w (Instr.box t u) (fun c => .ptr c 0) (.cells t v.cells false) := by
  refine ⟨.pointer (some ⟨w.heap.size, 0, none⟩), .cells u.cells t, u.cells.size, w, ⟨rfl, rfl, rfl⟩, ?_, fun c hc => ⟨objR_put hv.cells hc, .ptr (Loc.put_same ..)⟩⟩
  simp only [Instr.box, Sem.run_bind, Result.andThen_ok, newVar, newRow, run_newObj_alloc, Sem.run_pure]

theorem fill_size {pl : Nat → Option (Nat × Nat)} : ∀ (ps : List (Nat × Value)) (C us : Array Value), Instr.fill pl C ps = some us → us.size = C.size := by
  intro ps
  induction ps with
  | nil => intro C us h; simp only [Instr.fill, Option.some.injEq] at h; rw [← h]
  | cons p ps ih =>
    intro C us h
    obtain ⟨i, v⟩ := p
    simp only [Instr.fill] at h
    split at h
    · cases h
    · split at h
      · cases h
      · rw [ih _ _ h, foldl_zipIdxA, spliceA_size]

theorem buildS_A {t e : TypeId} {n : Nat} {ps : Array (Nat × Operand)} {xs : List (Nat × Nat × X)} {zs cs : List V} {a : List V} {ca : Act}
    (ha : VRs F r a ca.tmps) (hG : GlobOK F G) (hd : P.underlying t = some (.slice e)) (hz : zerosT P e = some zs)
    (hn : n * zs.length ≤ 2 ^ 24)
    (hx : cParts G (fun i => some (i * zs.length, zs.length)) ps.toList = some xs) (hf : fillV (List.replicate n zs).flatten (partsV a xs) = some cs) :
    AOp K P F r w (Instr.buildSlice t n (ps.map fun x => (x.1, ca.eval x.2))) (fun c => .sl c 0 n zs.length (some n)) (.cells e cs false) := by
  obtain ⟨u, h1, h2, hsz⟩ := zerosT_sound hz
  have hzs := zeros_sound (h2 F r) n
  obtain ⟨us, hus, hcs⟩ := fill_sound ha hG ps.toList xs _ cs _ hx hf hzs
  have hlen : us.size = n * zs.length := by
    rw [fill_size _ _ _ hus, ← hzs.1]; simp
  refine ⟨.slice (some ⟨w.heap.size, 0, none⟩) n n, .cells us e, us.size, w, ⟨rfl, rfl, rfl⟩, ?_, fun c hc => ⟨objR_put hcs hc, .sl (Loc.put_same ..) (.inl rfl) (by omega) (Nat.le_refl _) (fun k hk => by cases hk; rfl)⟩⟩
  have hcsz : zs.length = u.cells.size := (h2 F r).1
  simp only [Instr.buildSlice, Sem.run_bind, run_under hd, Result.andThen_ok, run_sizeOf hsz]
  rw [if_neg (by omega)]
  by_cases h0 : n * zs.length = 0
  · simp only [h0, if_true, Sem.run_pure, Sem.run_bind, Result.andThen_ok, Array.toList_map]
    have hr0 : (Array.range 0).map (fun i => (#[] : Array Value)[i % (#[] : Array Value).size]!) = (Array.range (n * u.cells.size)).map (fun i => u.cells[i % u.cells.size]!) := by
      rw [← hcsz, h0]; simp
    rw [hr0, hus]
    simp only [newRow, Sem.run_bind, run_newObj_alloc, Result.andThen_ok, Sem.run_pure]
  · simp only [h0, if_false, h1, Sem.run_pure, Sem.run_bind, Result.andThen_ok, Array.toList_map]
    rw [hcsz] at hus ⊢
    rw [hus]
    simp only [newRow, Sem.run_bind, run_newObj_alloc, Result.andThen_ok, Sem.run_pure]

theorem mkmap_A {t : TypeId} : AOp K P F r w (Instr.makeMap t none) .mp (.map [] 0) := by
  refine ⟨.map (some w.heap.size), .map #[] 0, 0, w, ⟨rfl, rfl, rfl⟩, ?_, fun c hc => ⟨.map rfl (fun i h => by cases h), .mp (Loc.put_same ..)⟩⟩
  simp [Instr.makeMap, Result.andThen_ok, -World.alloc_eq]

theorem mksl_A {t e : TypeId} {zs : List V} {by_ : Nat} {l c : Int} {xl xc : V} {ul uc : Value} (hd : P.underlying t = some (.slice e)) (hz : zerosT P e = some zs)
    (hbt : bytesT P e = some by_) (hl : asN xl = some l) (hc : asN xc = some c) (hxl : VR F r xl ul) (hxc : VR F r xc uc)
    (h : 0 ≤ l ∧ l ≤ c ∧ by_ * c ≤ 2 ^ 48 ∧ c < 2 ^ 60) :
    AOp K P F r w (Instr.makeSlice t ul uc) (fun i => .sl i 0 l.toNat zs.length (some c.toNat)) (.cells e (List.replicate c.toNat zs).flatten false) := by
  obtain ⟨u, h1, h2, hsz⟩ := zerosT_sound hz
  obtain ⟨hl0, hlc, hb, hc60⟩ := h
  cases xl <;> simp only [asN, Option.some.injEq, reduceCtorEq] at hl
  cases xc <;> simp only [asN, Option.some.injEq, reduceCtorEq] at hc
  subst hl hc
  cases hxl; cases hxc
  rename_i kl l kc c
  have hzs := zeros_sound (h2 F r) c.toNat
  have hcsz : zs.length = u.cells.size := (h2 F r).1
  have wl : IntKind.i64.wrap l = l := by
    simp only [IntKind.wrap, IntKind.bits, IntKind.signed]; simp; omega
  have wc : IntKind.i64.wrap c = c := by
    simp only [IntKind.wrap, IntKind.bits, IntKind.signed]; simp; omega
  unfold bytesT at hbt
  simp only [Option.map_eq_some_iff] at hbt
  obtain ⟨i, hi, rfl⟩ := hbt
  refine ⟨.slice (some ⟨w.heap.size, 0, none⟩) l.toNat c.toNat, .cells ((Array.range (c.toNat * u.cells.size)).map (fun i => u.cells[i % u.cells.size]!)) e, _, w, ⟨rfl, rfl, rfl⟩, ?_,
    fun c' hc' => ⟨objR_put hzs hc', .sl (k := c.toNat) (Loc.put_same ..) (.inl rfl) (by simp [hcsz]) (by omega) (fun k hk => by cases hk; rfl)⟩⟩
  have hti : (typeInfo e).run P w = .ok i w := by simp [typeInfo, hi]
  simp only [Instr.makeSlice, Sem.run_bind, run_under hd, Result.andThen_ok, asInt, asIntOf, Sem.run_pure, hti, wl, wc]
  have hcond : ((decide (c < 0) || decide ((i.bytes : Int) * c > 2 ^ 48)) || decide (l < 0) || decide (l > c)) = false := by
    simp; omega
  rw [if_neg (by simpa using hcond)]
  simp only [Sem.run_bind, run_askRoom, Result.andThen_ok, run_sizeOf hsz]
  by_cases h0 : c.toNat * zs.length = 0
  · simp only [h0, if_true, Sem.run_pure, Sem.run_bind, Result.andThen_ok]
    have hr0 : (Array.range 0).map (fun i => (#[] : Array Value)[i % (#[] : Array Value).size]!) = (Array.range (c.toNat * u.cells.size)).map (fun i => u.cells[i % u.cells.size]!) := by
      rw [← hcsz, h0]; simp
    rw [hr0]
    simp only [newRow, run_newObj_alloc, Sem.run_bind, Sem.run_pure, Result.andThen_ok]
  · simp only [h0, if_false, h1, Sem.run_pure, Sem.run_bind, Result.andThen_ok]
    rw [hcsz]
    simp only [newRow, run_newObj_alloc, Sem.run_bind, Sem.run_pure, Result.andThen_ok]

theorem s2b_A {e : TypeId} {s : List Nat} {b : ByteArray} (hb : b.data.toList.map UInt8.toNat = s) (hl : s.length < 2 ^ 60) :
    AOp K P F r w (Conv.stringToBytes e b) (fun c => .sl c 0 s.length 1 none) (.cells e (s.map natB) false) := by
  have hsz := ba_size hb
  have hcap := cut_ge b.size 0 e (w.tape w.drawn (.appendCap b.size 0 e)) (by omega)
  generalize hk : (Question.appendCap b.size 0 e).cut (w.tape w.drawn (.appendCap b.size 0 e)) = k at hcap
  let C : Array Value := (b.data.map fun x => .int .u8 x.toNat) ++ Array.replicate (k - b.size) (.int .u8 0)
  have hC : C.size = k := by
    simp only [C, Array.size_append, Array.size_map, Array.size_replicate, ByteArray.size_data]; omega
  have hrun : (Conv.stringToBytes e b).run P w = .ok (.slice (some ⟨w.heap.size, 0, none⟩) b.size k) (w.drew.alloc (.cells C e (C.size, C.size + 1))) := by
    rw [← freeze_alloc]
    simp only [Conv.stringToBytes, Sem.run_bind, run_choose, Question.forced, Bool.false_eq_true, if_false, Result.andThen_ok, hk, newRow, run_newObj, Sem.run_pure, World.drew_eq,
      markStringish, World.alloc_eq, World.size_drew]
    simp only [Sem.run_bind, run_shape, World.shape?, World.alloc, Result.andThen_ok, World.size_drew]
    simp only [Array.getElem?_push, World.size_drew, if_true, Result.andThen_ok, run_freeze, Sem.run_bind, Sem.run_pure]
    rfl
  have hv : VRs F r (s.map natB) (b.data.map fun x => Value.int .u8 x.toNat) := bytes_vrs hb
  refine ⟨_, _, k, w.drew, ⟨rfl, rfl, rfl⟩, hrun, fun c hc => ⟨.of_win hC ((hv.to_win).mono (Frz.le_refl _) (Loc.le_put_none hc)) (fun i hi _ hh => by simp only at hh; omega), ?_⟩⟩
  rw [hsz]
  exact .sl (Loc.put_same ..) (.inl rfl) (by simp) (by omega) (fun q hq => by cases hq)

theorem rngs_A {t : TypeId} {s : List Nat} {u : Value} (hd : P.underlying t = some .string) (hx : VR F r (.str s) u) :
    AOp K P F r w (Instr.range t u) (fun c => .ptr c 0) (.siter s 0) := by
  cases hx with | str hb =>
  rename_i b
  refine ⟨.pointer (some ⟨w.heap.size, 0, none⟩), .stringIter b 0, 0, w, ⟨rfl, rfl, rfl⟩, ?_, fun c hc => ⟨.siter hb, .ptr (Loc.put_same ..)⟩⟩
  simp only [Instr.range, Sem.run_bind, run_under hd, Result.andThen_ok, Sem.run_pure, run_newObj]
  rfl

/-- The new block of such an operation, under the number c. -/
def IOp.runA (o : IOp) (a : List V) (c : Nat) : Option (V × Chunk) :=
  match o with
  | .alloc e zs => some (.ptr c 0, .cells e zs false)
  | .box e size x => if (x.ev a).cells.length = size then some (.ptr c 0, .cells e (x.ev a).cells false) else none
  | .buildS e esz ln zs ps => match fillV zs (partsV a ps) with
    | some cs => some (.sl c 0 ln esz (some ln), .cells e cs false)
    | none => none
  | .s2b e x => match x.ev a with
    | .str s => if s.length < 2 ^ 60 then some (.sl c 0 s.length 1 none, .cells e (s.map natB) false) else none
    | _ => none
  | .mkmap => some (.mp c, .map [] 0)
  | .mksl e esz bytes zs l k => match asN (l.ev a), asN (k.ev a) with
    | some l, some k => if 0 ≤ l ∧ l ≤ k ∧ bytes * k ≤ 2 ^ 48 ∧ k < 2 ^ 60 then
        some (.sl c 0 l.toNat esz (some k.toNat), .cells e (List.replicate k.toNat zs).flatten false) else none
    | _, _ => none
  | .rngs x => match x.ev a with
    | .str s => some (.ptr c 0, .siter s 0)
    | _ => none
  | _ => none

theorem AOp.toN {s : Sem Value} {mk ch} {ρ : Operand → Value} {o : Oper} (h : execOp ρ o = (do Pure.pure (Next.value (← s)))) (hs : AOp K P F r w s mk ch) :
    ∃ (u : Value) (ob : Obj) (N : Nat) (w0 : World), (w0.heap = w.heap ∧ w0.os = w.os ∧ w0.output = w.output) ∧ (execOp ρ o).run P w = .ok (.value u) (w0.alloc ob) ∧
      ∀ c, r c = none → ObjR K F (r.put c (w.heap.size, N)) N ch ob ∧ VR F (r.put c (w.heap.size, N)) (mk c) u := by
  obtain ⟨u, ob, N, w0, h1, h2, h3⟩ := hs
  exact ⟨u, ob, N, w0, h1, by rw [h]; simp only [Sem.run_bind, h2, Result.andThen_ok, Sem.run_pure], h3⟩

theorem runA_sound {o : Oper} {io : IOp} {a : List V} {ca : Act} {c0 : Nat} {v0 : V} {ch : Chunk} (ha : VRs F r a ca.tmps) (hG : GlobOK F G) (h : cOp P G o = some io)
    (hr : io.runA a c0 = some (v0, ch)) : ∃ mk : Nat → V, mk c0 = v0 ∧ (∀ c, io.runA a c = some (mk c, ch)) ∧
      ∃ (u : Value) (ob : Obj) (N : Nat) (w0 : World), (w0.heap = w.heap ∧ w0.os = w.os ∧ w0.output = w.output) ∧ (execOp ca.eval o).run P w = .ok (.value u) (w0.alloc ob) ∧
        ∀ c, r c = none → ObjR K F (r.put c (w.heap.size, N)) N ch ob ∧ VR F (r.put c (w.heap.size, N)) (mk c) u := by
  unfold cOp at h
  split at h
  case h_4 t ho =>
    simp only [Option.map_eq_some_iff] at h
    obtain ⟨zs, hz, rfl⟩ := h
    cases hr
    exact ⟨fun c => .ptr c 0, rfl, fun c => rfl, AOp.toN (by simp only [execOp, ho]) (alloc_A hz)⟩
  case h_5 t x ho =>
    split at h
    · rename_i s y hsz hy
      cases h
      simp only [IOp.runA] at hr
      split at hr
      · rename_i hl
        cases hr
        exact ⟨fun c => .ptr c 0, rfl, fun c => by simp only [IOp.runA, hl, if_true], AOp.toN (by simp only [execOp, ho]) (box_A (cX_sound hy ha hG))⟩
      · cases hr
    · cases h
  case h_7 t ln ps ho =>
    split at h
    · rename_i e hd
      split at h
      · rename_i zs hz
        split at h
        · rename_i hn
          simp only [Option.map_eq_some_iff] at h
          obtain ⟨xs, hx, rfl⟩ := h
          simp only [IOp.runA] at hr
          split at hr
          · rename_i cs hf
            cases hr
            exact ⟨fun c => .sl c 0 ln zs.length (some ln), rfl, fun c => by simp only [IOp.runA, hf], AOp.toN (by simp only [execOp, ho]) (buildS_A ha hG hd hz hn hx hf)⟩
          · cases hr
        · cases h
      · cases h
    · cases h
  case h_13 s d x ho =>
    unfold cConv at h
    split at h
    · cases h
    · rename_i y hy
      have vx := cX_sound hy ha hG
      split at h
      · cases h; cases hr
      · cases h; cases hr
      · rename_i e h1 h2
        split at h
        · rename_i h3 h4
          cases h
          simp only [IOp.runA] at hr
          split at hr
          · rename_i t ht
            split at hr
            · rename_i hl
              cases hr
              rw [ht] at vx
              refine ⟨fun c => .sl c 0 t.length 1 none, rfl, fun c => by simp only [IOp.runA, ht, hl, if_true], ?_⟩
              refine AOp.toN (s := convert s d (ca.eval x)) (by simp only [execOp, ho]) ?_
              generalize ca.eval x = u at vx
              cases vx with | str hb =>
              obtain ⟨u, ob, N, w0, g1, g2, g3⟩ := s2b_A (K := K) (P := P) (F := F) (r := r) (w := w) (e := e) hb hl
              refine ⟨u, ob, N, w0, g1, ?_, g3⟩
              simp only [convert, Sem.run_bind, run_under h1, run_under h2, Result.andThen_ok, run_under h3]
              exact g2
            · cases hr
          · cases hr
        · cases h
      · split at h
        · cases h; cases hr
        · cases h
      · cases h
  case h_16 t ho =>
    cases h; cases hr
    exact ⟨.mp, rfl, fun c => rfl, AOp.toN (by simp only [execOp, ho, Option.map_none]) (mkmap_A (t := t))⟩
  case h_17 t l c ho =>
    split at h
    · rename_i e hd
      split at h
      · rename_i zs b xl xc hz hb hl hc
        cases h
        simp only [IOp.runA] at hr
        split at hr
        · rename_i nl nc hnl hnc
          split at hr
          · rename_i hcond
            cases hr
            exact ⟨fun i => .sl i 0 nl.toNat zs.length (some nc.toNat), rfl, fun c => by simp only [IOp.runA, hnl, hnc, hcond, if_true, and_self], AOp.toN (by simp only [execOp, ho]) (mksl_A hd hz hb hnl hnc (cX_sound hl ha hG) (cX_sound hc ha hG) hcond)⟩
          · cases hr
        · cases hr
      · cases h
    · cases h
  case h_28 t x ho =>
    split at h
    · rename_i y hd hy
      cases h
      simp only [IOp.runA] at hr
      have vy := cX_sound hy ha hG
      split at hr
      · rename_i s hsv
        cases hr
        rw [hsv] at vy
        exact ⟨fun c => .ptr c 0, rfl, fun c => by simp only [IOp.runA, hsv], AOp.toN (by simp only [execOp, ho]) (rngs_A hd vy)⟩
      · cases hr
    · cases h; cases hr
    · cases h
  all_goals exfalso
  case h_11 => 
    unfold cBin at h
    repeat' split at h
    all_goals first | (cases h; done) | (cases h; cases hr; done)
  case h_31 =>
    unfold cBuiltin at h
    repeat' split at h
    all_goals first | (cases h; done) | (cases h; cases hr; done) | (simp only [Option.map_eq_some_iff] at h; obtain ⟨_, _, rfl⟩ := h; cases hr; done)
  all_goals
    repeat' split at h
  all_goals first | (cases h; done) | (cases h; cases hr; done) | (simp only [Option.map_eq_some_iff] at h; obtain ⟨_, _, rfl⟩ := h; cases hr; done)

end
end Go.Proofs.YtjjgiigbhjfkaaaGreatDoor.Am

namespace Go.Proofs.YtjjgiigbhjfkaaaGreatDoor.Am
open Go

inductive Cls where
  | P | R | A | E
  deriving DecidableEq, Inhabited

/-- P: pure; R: reads memory; A: lays a block and looks at no memory; E: all else. -/
def IOp.cls : IOp → Cls
  | .alloc .. | .box .. | .buildS .. | .s2b .. | .mkmap | .mksl .. | .rngs _ => .A
  | .load .. | .look .. | .b2s _ | .slice (.arr _) .. | .len .map _ => .R
  | .store .. | .app .. | .copy .. | .mupd .. | .mdel .. | .ment .. | .mest .. | .nexts _ | .rngm _ | .nextm _ | .call .. | .panic _ => .E
  | _ => .P

/-- i stands before j. -/
def pre (b : List Nat) (i j : Nat) : Bool := (b.getD j 0).testBit i
def subM (x d : Nat) : Bool := x &&& d == x
def clsAt (is : List Ins) (i : Nat) : Cls := match is[i]? with
  | some x => x.op.cls
  | none => .P
/-- One more of the order: what is done, and how many steps are left. -/
def canonGo (is : List Ins) (b : List Nat) (n : Nat) : Nat → Nat → List Nat → List Nat
  | 0, _, acc => acc.reverse
  | k + 1, d, acc =>
    let rs := (List.range n).filter fun i => !d.testBit i && subM (b.getD i 0) d
    let soon := rs.find? fun i => clsAt is i == .P || clsAt is i == .R
    match soon with
    | some i => canonGo is b n k (d ||| 2 ^ i) (i :: acc)
    | none => match rs.find? fun i => clsAt is i == .E with
      | some i => canonGo is b n k (d ||| 2 ^ i) (i :: acc)
      | none =>
        let es := (List.range n).filter fun i => !d.testBit i && clsAt is i == .E
        let e := es.find? fun i => es.all fun j => i == j || pre b i j
        match (match e with
          | some e => rs.find? fun i => pre b i e
          | none => rs.head?) with
        | some i => canonGo is b n k (d ||| 2 ^ i) (i :: acc)
        | none => match rs.head? with
          | some i => canonGo is b n k (d ||| 2 ^ i) (i :: acc)
          | none => acc.reverse
def canon (is : List Ins) (b : List Nat) : List Nat := canonGo is b is.length is.length 0 []

/-- Of two that follow one another in the order: may they? -/
def pairOK (is : List Ins) (b : List Nat) (i j : Nat) : Bool :=
  i != j && !pre b j i && match clsAt is i, clsAt is j with
  | .E, .E | .A, .E | .A, .R | .E, .R => pre b i j
  | _, _ => true
def pairsOK (is : List Ins) (b : List Nat) : List Nat → Bool
  | [] => true
  | i :: l => l.all (pairOK is b i) && pairsOK is b l
/-- The temporaries that an operand names. -/
def X.ts : X → List Nat
  | .t i => [i]
  | .c _ => []
def xsTs : List X → List Nat
  | [] => []
  | x :: xs => x.ts ++ xsTs xs
def IOp.xs : IOp → List X
  | .mov x | .box _ _ x | .load _ _ x | .nilck x | .un _ x | .conv _ x | .same x | .s2b _ x | .b2s x | .mkif _ x | .faddr _ x | .fld _ _ _ x
  | .len _ x | .rngs x | .nexts x | .rngm x | .nextm x | .extr _ x | .panic x => [x]
  | .pick c a b => [c, a, b]
  | .alloc .. | .mkmap => []
  | .build _ ps | .buildS _ _ _ _ ps => ps.map fun p => p.2.2
  | .store _ a x | .bin _ a x | .eqd _ _ a x | .iadr _ _ a x | .idxs a x | .idxa _ _ _ a x | .look _ _ _ a x | .mdel _ a x | .ment _ _ a x | .app _ _ _ a x | .copy _ a x
  | .mn a x | .mx a x | .mksl _ _ _ _ a x => [a, x]
  | .mkfn _ xs => xs
  | .slice _ _ x l h m => [x] ++ l.toList ++ h.toList ++ m.toList
  | .mupd _ a b c | .mest a b c => [a, b, c]
  | .call f xs => f :: xs
def Ins.ts (i : Ins) : List Nat := xsTs i.op.xs ++ (match i.guard with | some (t, _) => [t] | none => [])
/-- Who writes a temporary, and who else writes or reads it, stand in an order. -/
def tmpOK (is : List Ins) (b : List Nat) : Bool :=
  (List.range is.length).all fun i => match is[i]? with
    | some x => match x.dst with
      | some d => (List.range is.length).all fun j => match is[j]? with
        | some y => i == j || pre b i j || pre b j i || ((y.dst != some d) && !(y.ts.contains d))
        | none => true
      | none => true
    | none => true
def drawOK (is : List Ins) (b : List Nat) (l : List Nat) : Bool :=
  l.length == is.length && (List.range is.length).all (l.contains ·) && l.all (fun i => decide (i < is.length)) && b.all (fun x => decide (x < 2 ^ is.length)) && (List.range is.length).all (fun i => !pre b i i) && pairsOK is b l && tmpOK is b

def IR.count : IR → Nat × Nat
  | .seq a b | .cond _ a b => (a.count.1 + b.count.1, a.count.2 + b.count.2)
  | .block _ a | .loop a => a.count
  | .rangeFunc _ _ a b => (a.count.1 + b.count.1, a.count.2 + b.count.2)
  | .region _ => (1, 0)
  | .draw .. => (0, 1)
  | _ => (0, 0)

/-- Code that is not covered: nothing is said of it. -/
def IR.bad : IR := .cond (.c .nilp) .skip .skip
/-- The compiled form of a body. -/
def cCode (P : Program) (G : Glob) : Code → IR
  | .skip => .skip
  | .region _ ops draw => match cInss P G ops ops.toList with
    | none => .bad
    | some is =>
      if draw then
        if drawOK is (Region.before ops).toList (canon is (Region.before ops).toList) then .draw is (Region.before ops).toList (canon is (Region.before ops).toList) else .bad
      else .region is
  | .seq a b => .seq (cCode P G a) (cCode P G b)
  | .cond c a b => match cX G c with
    | some c => .cond c (cCode P G a) (cCode P G b)
    | none => .bad
  | .block id a => .block id (cCode P G a)
  | .loop a => .loop (cCode P G a)
  | .rangeFunc f ps a b => match cX G f with
    | some f => .rangeFunc f ps.toList (cCode P G a) (cCode P G b)
    | none => .bad
  | .exit id => .exit id
  | .ret => .ret
  | _ => .bad

/- What a body does. -/
inductive Out where
  | norm
  | exit (id : Nat)
  | ret
  deriving DecidableEq, Inhabited

abbrev CallV := V → List V → Mem → Option (V × Mem)

def putV (a : List V) (dst : Option Nat) (v : V) : List V := match dst with
  | none => a
  | some d => a.set d v
def wantedV (g : Option (Nat × Bool)) (a : List V) : Bool := match g with
  | none => true
  | some (t, b) => match a[t]? with
    | some (.bool b') => b' == b
    | _ => false
def opRun (call : CallV) (o : IOp) (a : List V) (m : Mem) : Option (V × Mem) := match o with
  | .call f xs => call (f.ev a) (xs.map (X.ev a)) m
  | o => o.run a m
def insRun (call : CallV) (i : Ins) (a : List V) (m : Mem) : Option (List V × Mem) :=
  if wantedV i.guard a then
    match opRun call i.op a m with
    | some (v, m') => some (putV a i.dst v, m')
    | none => none
  else some (putV a i.dst undefV, m)
def inssRun (call : CallV) : List Ins → List V → Mem → Option (List V × Mem)
  | [], a, m => some (a, m)
  | i :: is, a, m => match insRun call i a m with
    | some (a', m') => inssRun call is a' m'
    | none => none

def pads : Nat → Mem → Mem
  | 0, m => m
  | n + 1, m => pads n (m.push .dead)
/-- The number that is kept for the block of the i-th operation. -/
def rank (is : List Ins) (i : Nat) : Nat := (is.take i).countP fun x => x.op.cls == .A
/-- The reads done so far that no later effect may turn: operation, its reader's temporaries, value. -/
abbrev Pend := List (Nat × IOp × List V × V)
def pendOK (b : List Nat) (e : Nat) (m : Mem) : Pend → Bool
  | [] => true
  | (i, o, a, v) :: ps => (pre b i e || (match o.run a m with
      | some (v', _) => V.eq v' v
      | none => false)) && pendOK b e m ps
def drawRun (call : CallV) (is : List Ins) (b : List Nat) (base : Nat) : List Nat → Pend → List V → Mem → Option (List V × Mem)
  | [], _, a, m => some (a, m)
  | i :: l, ps, a, m => match is[i]? with
    | none => none
    | some x =>
      if wantedV x.guard a then
        match x.op.cls with
        | .P => match x.op.run a m with
          | some (v, _) => drawRun call is b base l ps (putV a x.dst v) m
          | none => none
        | .R => match x.op.run a m with
          | some (v, _) => drawRun call is b base l ((i, x.op, a, v) :: ps) (putV a x.dst v) m
          | none => none
        | .A => match x.op.runA a (base + rank is i) with
          | some (v, ch) => drawRun call is b base l ps (putV a x.dst v) (m.set (base + rank is i) ch)
          | none => none
        | .E => match opRun call x.op a m with
          | some (v, m') => if pendOK b i m' ps then drawRun call is b base l ps (putV a x.dst v) m' else none
          | none => none
      else if x.op.cls = .E ∧ pendOK b i m ps = false then none else drawRun call is b base l ps (putV a x.dst undefV) m

def iter (f : List V → Mem → Option (Out × List V × Mem)) : Nat → List V → Mem → Option (Out × List V × Mem)
  | 0, _, _ => none
  | n + 1, a, m => match f a m with
    | some (.norm, a', m') => iter f n a' m'
    | r => r
def jumpOf : Jump → Out
  | .exit id => .exit id
  | .ret => .ret

/-- Functions entered from outside: number, all arguments. -/
abbrev EnterV := Nat → List V → Mem → Option (V × Mem)

/-- Is the record of the round that we are in where it must be? -/
def inRound (rd : Option Nat) (m : Mem) : Bool := match rd with
  | none => true
  | some c => match m.get c with
    | some (.loop _) => true
    | _ => false

def codeRun (call : CallV) (enter : EnterV) (L : Nat) (rd : Option Nat) : IR → List V → Mem → Option (Out × List V × Mem)
  | .skip, a, m => some (.norm, a, m)
  | .seq x y, a, m => match codeRun call enter L rd x a m with
    | some (.norm, a', m') => codeRun call enter L rd y a' m'
    | r => r
  | .region is, a, m => match inssRun call is a m with
    | some (a', m') => some (.norm, a', m')
    | none => none
  | .draw is b l, a, m => match drawRun call is b m.size l [] a (pads ((is.countP fun x => x.op.cls == .A)) m) with
    | some (a', m') => some (.norm, a', m')
    | none => none
  | .cond x p q, a, m => match x.ev a with
    | .bool true => codeRun call enter L rd p a m
    | .bool false => codeRun call enter L rd q a m
    | _ => none
  | .block id p, a, m => match codeRun call enter L rd p a m with
    | some (.exit id', a', m') => if id' = id then some (.norm, a', m') else some (.exit id', a', m')
    | r => r
  | .loop p, a, m => iter (codeRun call enter L rd p) L a m
  | .exit id, a, m => some (.exit id, a, m)
  | .ret, a, m => some (.ret, a, m)
  | .rangeFunc f ps asg body, a, m => match f.ev a with
    | .fn g cap => if inRound rd m = false then none else
      match enter g ([.yield m.size] ++ cap) (m.push (.loop ⟨.ready, none, a, ps, asg, body⟩)) with
      | some (_, m') => match m'.get m.size with
        | some (.loop lc) => if lc.state = .busy then none else
          match lc.pending with
          | none => some (.norm, a, m'.set m.size (.loop { lc with state := .exhausted }))
          | some j => some (jumpOf j, a, m'.set m.size (.loop { lc with state := .exhausted }))
        | _ => none
      | none => none
    | _ => none

def setAll : List V → List (Nat × V) → List V
  | tm, [] => tm
  | tm, (t, v) :: ps => setAll (tm.set t v) ps
def endRound (c : Nat) (j : Option Jump) (m : Mem) : Option (V × Mem) := match m.get c with
  | some (.loop lc) => some (.bool j.isNone, m.set c (.loop { lc with state := if j.isNone then .ready else .done, pending := j }))
  | _ => none
def roundRun (call : CallV) (enter : EnterV) (L : Nat) (c : Nat) (args : List V) (m : Mem) : Option (V × Mem) :=
  match m.get c with
  | some (.loop lc) => if args.length ≠ lc.params.length then none else
    match codeRun call enter L (some c) lc.assign (setAll lc.tmps (lc.params.zip args)) m with
    | some (.norm, a1, m1) => match m1.get c with
      | some (.loop lc1) => if lc1.state ≠ .ready then none else
        match codeRun call enter L (some c) lc.body a1 (m1.set c (.loop { lc1 with state := .busy })) with
        | some (.norm, _, m2) => endRound c none m2
        | some (.exit id, _, m2) => endRound c (some (.exit id)) m2
        | some (.ret, _, m2) => endRound c (some .ret) m2
        | none => none
      | _ => none
    | _ => none
  | _ => none

inductive ResIR where
  | tmp (t : Nat)
  | cell (a : Nat) (agg : Bool) (size : Nat)
  deriving Inhabited
structure FnIR where
  ntmps : Nat
  res : List ResIR
  body : IR
  frz : Bool
  deriving Inhabited
def resVs (a : List V) (m : Mem) : List ResIR → Option (List V)
  | [] => some []
  | .tmp t :: rs => match resVs a m rs with
    | some vs => some (a.getD t undefV :: vs)
    | none => none
  | .cell p agg size :: rs => match loadV m agg size (a.getD p undefV), resVs a m rs with
    | some v, some vs => some (v :: vs)
    | _, _ => none
def packV : List V → V
  | [v] => v
  | vs => .tup vs

def Chunk.under (n : Nat) : Chunk → Bool
  | .cells _ cs _ => V.unders n cs
  | .map es _ => es.all fun e => e.1.under n && e.2.1.under n
  | .loop l => V.unders n l.tmps
  | .miter (some c) => decide (c < n)
  | _ => true
def dirtyOK (n : Nat) (m : Mem) : List Nat → Bool
  | [] => true
  | c :: d => (decide (n ≤ c) || (match m.get c with
    | some ch => ch.under n
    | none => true)) && dirtyOK n m d
def popM (n : Nat) (d0 : List Nat) (m : Mem) : Mem := ⟨n, m.l.drop (m.size - n), m.d.filter (fun c => decide (c < n)) ++ d0⟩

/- A value that names new blocks is made a frozen one: the blocks are given up. 'memo': what was frozen already. -/
abbrev Memo := List (Nat × List V)
def Memo.find (c : Nat) : Memo → Option (List V)
  | [] => none
  | (c', cs) :: ms => if c = c' then some cs else Memo.find c ms
mutual
def freezeV : Nat → Memo → Mem → V → Option (V × Memo × Mem)
  | 0, _, _, _ => none
  | k + 1, ms, m, v => match v with
    | .bool _ | .int .. | .str _ | .nilp | .nils | .nilm | .nilf | .nili | .fp .. | .lst .. => some (v, ms, m)
    | .ptr c off => match freezeC k ms m c with
      | some (cs, ms, m) => some (.fp cs off, ms, m)
      | none => none
    | .sl c off len esz cap => match freezeC k ms m c with
      | some (cs, ms, m) => if off + len * esz ≤ cs.length ∧ len ≠ 0 then some (.lst ((cs.drop off).take (len * esz)) len (decide (cap = some len)), ms, m) else none
      | none => none
    | .fn f cap => match freezeVs k ms m cap with
      | some (cap, ms, m) => some (.fn f cap, ms, m)
      | none => none
    | .iface t v => match freezeV k ms m v with
      | some (v, ms, m) => some (.iface t v, ms, m)
      | none => none
    | .agg cs => match freezeVs k ms m cs with
      | some (cs, ms, m) => some (.agg cs, ms, m)
      | none => none
    | .tup cs => match freezeVs k ms m cs with
      | some (cs, ms, m) => some (.tup cs, ms, m)
      | none => none
    | _ => none
def freezeVs : Nat → Memo → Mem → List V → Option (List V × Memo × Mem)
  | 0, _, _, _ => none
  | _ + 1, ms, m, [] => some ([], ms, m)
  | k + 1, ms, m, v :: vs => match freezeV k ms m v with
    | some (v, ms, m) => match freezeVs k ms m vs with
      | some (vs, ms, m) => some (v :: vs, ms, m)
      | none => none
    | none => none
def freezeC : Nat → Memo → Mem → Nat → Option (List V × Memo × Mem)
  | 0, _, _, _ => none
  | k + 1, ms, m, c => match Memo.find c ms with
    | some cs => some (cs, ms, m)
    | none => match m.get c with
      | some (.cells _ cs _) => match freezeVs k ms (m.set c .dead) cs with
        | some (cs, ms, m) => some (cs, (c, cs) :: ms, m)
        | none => none
      | _ => none
end
/-- At the top, what is older than n stays as it is. -/
def freezeT (n : Nat) (k : Nat) (ms : Memo) (m : Mem) (v : V) : Option (V × Memo × Mem) := if v.under n then some (v, ms, m) else freezeV k ms m v
def freezeTs (n : Nat) (k : Nat) : Memo → Mem → List V → Option (List V × Memo × Mem)
  | ms, m, [] => some ([], ms, m)
  | ms, m, v :: vs => match freezeT n k ms m v with
    | some (v, ms, m) => match freezeTs n k ms m vs with
      | some (vs, ms, m) => some (v :: vs, ms, m)
      | none => none
    | none => none

def giveBack (n : Nat) (d0 : List Nat) (v : V) (m : Mem) : V × Mem :=
  if v.under n && dirtyOK n m m.d then (v, popM n d0 m) else (v, { m with d := m.d ++ d0 })
def fnRun (call : CallV) (enter : EnterV) (L : Nat) (fn : FnIR) (args : List V) (m : Mem) : Option (V × Mem) :=
  match codeRun call enter L none fn.body (args ++ List.replicate (fn.ntmps - args.length) undefV) { m with d := [] } with
  | some (.exit _, _, _) | none => none
  | some (_, a, m1) => match resVs a m1 fn.res with
    | none => none
    | some vs => if fn.frz then
        match freezeTs m.size L [] m1 vs with
        | some (vs, _, m2) => some (giveBack m.size m.d (packV vs) m2)
        | none => some (giveBack m.size m.d (packV vs) m1)
      else some (giveBack m.size m.d (packV vs) m1)

abbrev ExtV := Nat → Option (List V → Mem → Option (V × Mem))
def callOf (ext : ExtV) (enter : EnterV) (round : Nat → List V → Mem → Option (V × Mem)) : CallV := fun fv args m => match fv with
  | .fn f cap => match ext f with
    | some e => e (args ++ cap) m
    | none => enter f (args ++ cap) m
  | .yield c => round c args m
  | _ => none
/-- Functions that are told apart: they may call. -/
abbrev SpV := Nat → Option (CallV → List V → Mem → Option (V × Mem))
/-- A function entered: by its code, or as it is told. -/
def enterOf (tab : Nat → Option FnIR) (sp : SpV) (L : Nat) (call : CallV) (enter : EnterV) : EnterV := fun f args m => match tab f with
  | some fn => fnRun call enter L fn args m
  | none => match sp f with
    | some g => g call args m
    | none => none
/-- The machine, by the depth of calls. -/
def machine (tab : Nat → Option FnIR) (ext : ExtV) (sp : SpV) (L : Nat) : Nat → CallV × EnterV
  | 0 => (fun _ _ _ => none, fun _ _ _ => none)
  | d + 1 =>
    (callOf ext (enterOf tab sp L (machine tab ext sp L d).1 (machine tab ext sp L d).2) (roundRun (machine tab ext sp L d).1 (machine tab ext sp L d).2 L),
      enterOf tab sp L (machine tab ext sp L d).1 (machine tab ext sp L d).2)

end Go.Proofs.YtjjgiigbhjfkaaaGreatDoor.Am

namespace Go.Proofs.YtjjgiigbhjfkaaaGreatDoor.Am
open Go

/-- The codes that loops' records hold. -/
def KC (P : Program) (G : Glob) : CodeR := fun ir c => cCode P G c = ir

/-- The widest fence, in a round or outside of any. -/
def fe (rd : Option Nat) : Fence := { Fence.wide with round := rd }
theorem fe_fn (rd : Option Nat) (f : FuncId) : (fe rd).fn f := trivial
theorem fe_depth (rd : Option Nat) : (fe rd).depth = none := rfl
theorem calls_fe {rd rd' : Option Nat} {n : Nat} {P : Program} {f : FuncId} {args : Array Value} {w : World} {R : Ending → World → Prop} (h : CallsIn (fe rd) n P f args w R) :
    CallsIn (fe rd') n P f args w R := h
theorem round_fe {rd rd' : Option Nat} {n : Nat} {P : Program} {l : Nat} {f : FuncId} {tmps : Array Value} {asg body : Code} {w : World} {R : Ending → World → Prop}
    (h : RoundIn (fe rd) n P l f tmps asg body w R) : RoundIn (fe rd') n P l f tmps asg body w R := h
theorem calls_mono {rd : Option Nat} {n : Nat} {P : Program} {f : FuncId} {args : Array Value} {w : World} {R R' : Ending → World → Prop} (h : CallsIn (fe rd) n P f args w R)
    (hr : ∀ e w', R e w' → R' e w') : CallsIn (fe rd) n P f args w R' :=
  CallsIn.mono h hr

section
variable {K : CodeR} {F : Frz} {r : Loc} {m : Mem} {w : World} {P : Program} {G : Glob}

/-- A call has returned, and what with. -/
def retPost (K : CodeR) (F : Frz) (r : Loc) (m : Mem) (w : World) (v : V) (m' : Mem) : Ending → World → Prop
  | .returned u, w' => ∃ F' r', Sim K F' r' m' w' ∧ St F r m w F' r' m' w' ∧ VR F' r' v u
  | _, _ => False

/-- How a call answers. -/
def CallRes (K : CodeR) (P : Program) (F : Frz) (r : Loc) (m : Mem) (w : World) (s : Sem Next) (v : V) (m' : Mem) : Prop :=
  (∃ u w' F' r', s.run P w = .ok (.value u) w' ∧ Sim K F' r' m' w' ∧ St F r m w F' r' m' w' ∧ VR F' r' v u) ∨
  (∃ f args, s.run P w = .ok (.enter f args) w ∧ ∀ n, CallsIn (fe none) n P f args w (retPost K F r m w v m')) ∨
  (∃ l f tmps asg body, s.run P w = .ok (.round l f tmps asg body) w ∧ ∀ n, RoundIn (fe none) n P l f tmps asg body w (retPost K F r m w v m'))

def CallOK (K : CodeR) (P : Program) (G : Glob) (call : CallV) : Prop :=
  ∀ {F : Frz} {r : Loc} {m : Mem} {w : World} {fv : V} {uf : Value} {args : List V} {uargs : Array Value} {v : V} {m' : Mem}, GlobOK F G → Sim K F r m w → VR F r fv uf →
    VRs F r args uargs → call fv args m = some (v, m') → CallRes K P F r m w (do let d ← Deferred.ofValue uf uargs; invoke d.target d.args) v m'

theorem CallRes.upon {s : Sem Next} {v : V} {m' : Mem} (h : CallRes K P F r m w s v m') {rd : Option Nat} {n : Nat} {o : Oper} {ca : Act} {next : Act → World → Prop} {Q : Exit → Act → World → Prop}
    (hn : ∀ u w' F' r', Sim K F' r' m' w' → St F r m w F' r' m' w' → VR F' r' v u → next (ca.put o.dst u) w') : o.uponIn (fe rd) n P ca next Q (s.run P w) := by
  rcases h with ⟨u, w', F', r', h1, h2, h3, h4⟩ | ⟨f, args, h1, h2⟩ | ⟨l, f, tmps, asg, body, h1, h2⟩
  · rw [h1, Oper.uponIn_value]
    exact hn u w' F' r' h2 h3 h4
  · rw [h1, Oper.uponIn_enter]
    refine ⟨fun h => by simp [fe_depth] at h, calls_fe (calls_mono (h2 (n - 1)) ?_)⟩
    intro e w' he
    cases e with
    | returned u =>
      obtain ⟨F', r', g1, g2, g3⟩ := he
      exact hn u w' F' r' g1 g2 g3
    | panicked c => exact he.elim
    | outgrown => exact he.elim
  · rw [h1, Oper.uponIn_round]
    refine ⟨fun h => by simp [fe_depth] at h, round_fe (RoundIn.mono (h2 (n - 1)) ?_)⟩
    intro e w' he
    cases e with
    | returned u =>
      obtain ⟨F', r', g1, g2, g3⟩ := he
      exact hn u w' F' r' g1 g2 g3
    | panicked c => exact he.elim
    | outgrown => exact he.elim

theorem OpN.upon {o : Oper} {ρ : Operand → Value} {v : V} {m' : Mem} (h : OpN K P F r m w (execOp ρ o) v m') {rd : Option Nat} {n : Nat} {ca : Act} {next : Act → World → Prop} {Q : Exit → Act → World → Prop}
    (hn : ∀ u w' F' r', Sim K F' r' m' w' → St F r m w F' r' m' w' → VR F' r' v u → next (ca.put o.dst u) w') : o.uponIn (fe rd) n P ca next Q ((execOp ρ o).run P w) := by
  obtain ⟨w', F', r', h1, h2, h3⟩ := h
  rcases h3 with ⟨u, h3, h4⟩ | ⟨h3, rfl⟩
  · rw [h3, Oper.uponIn_value]
    exact hn u w' F' r' h1 h2 h4
  · rw [h3, Oper.uponIn_skip]
    exact hn undef w' F' r' h1 h2 (.tup rfl fun i h => by cases h)

/-- No compiled operation defers. -/
theorem cOp_defer {o : Oper} {io : IOp} (h : cOp P G o = some io) : ∀ c, o.op ≠ .defer c := by
  intro c ho
  simp [cOp, ho] at h

theorem cOp_call {o : Oper} {f : X} {xs : List X} (h : cOp P G o = some (.call f xs)) :
    ∃ pf args ts, o.op = .call { callee := .value pf, args := args, argTypes := ts } ∧ cX G pf = some f ∧ cXs G args.toList = some xs := by
  unfold cOp at h
  split at h
  case h_11 => 
    unfold cBin at h
    repeat' split at h
    all_goals cases h
  case h_13 =>
    unfold cConv at h
    repeat' split at h
    all_goals cases h
  case h_31 =>
    unfold cBuiltin at h
    repeat' split at h
    all_goals first | (cases h; done) | (simp only [Option.map_eq_some_iff] at h; obtain ⟨_, _, h⟩ := h; cases h; done)
  case h_32 pf args ts ho =>
    split at h
    · rename_i x ys hx hys
      cases h
      exact ⟨pf, args, ts, ho, hx, hys⟩
    · cases h
  all_goals
    repeat' split at h
  all_goals first | (cases h; done) | (simp only [Option.map_eq_some_iff] at h; obtain ⟨_, _, h⟩ := h; cases h; done)

theorem opRun_call {call : CallV} {o : IOp} {a : List V} {m : Mem} (h : ∀ f xs, o ≠ .call f xs) : opRun call o a m = o.run a m := by
  cases o <;> first | rfl | exact absurd rfl (h _ _)

/-- One operation that is wanted. -/
theorem oper_sound {call : CallV} (hcall : CallOK K P G call) {o : Oper} {io : IOp} {a : List V} {ca : Act} {v : V} {m' : Mem} (hs : Sim K F r m w) (ha : VRs F r a ca.tmps) (hG : GlobOK F G)
    (h : cOp P G o = some io) (hr : opRun call io a m = some (v, m')) {rd : Option Nat} {n : Nat} {next : Act → World → Prop} {Q : Exit → Act → World → Prop}
    (hn : ∀ u w' F' r', Sim K F' r' m' w' → St F r m w F' r' m' w' → VR F' r' v u → next (ca.put o.dst u) w') : o.wpIn (fe rd) n P ca w next Q := by
  refine ⟨fun f _ => fe_fn rd f, ?_⟩
  rw [Oper.semAt_eq _ _ _ (cOp_defer h)]
  by_cases hc : ∃ f xs, io = .call f xs
  · obtain ⟨f, xs, rfl⟩ := hc
    obtain ⟨pf, args, ts, ho, hf, hxs⟩ := cOp_call h
    have hvf := cX_sound hf ha hG
    have hva := cXs_sound ha hG hxs
    have hargs : args.map ca.eval = ⟨args.toList.map ca.eval⟩ := by rw [← Array.toList_map]
    rw [← hargs] at hva
    have he : execOp ca.eval o = (do let d ← Deferred.ofValue (ca.eval pf) (args.map ca.eval); invoke d.target d.args) := by
      simp only [execOp, ho, resolve]
    rw [he]
    exact (hcall hG hs hvf hva hr).upon hn
  · rw [opRun_call (fun f xs h => hc ⟨f, xs, h⟩)] at hr
    exact (op_sound hs ha hG h hr).upon hn

theorem VRs.of_get {vs : List V} {us : Array Value} (hl : vs.length = us.size) (h : ∀ (i : Nat) (v : V), vs[i]? = some v → ∃ u, us[i]? = some u ∧ VR F r v u) : VRs F r vs us :=
  ⟨hl, fun i h1 h2 => by
    obtain ⟨u, hu, hv⟩ := h i _ (List.getElem?_eq_getElem h1)
    rw [Array.getElem?_eq_getElem h2] at hu
    cases hu; exact hv⟩

theorem VRs.put {a : List V} {ca : Act} {dst : Option Nat} {v : V} {u : Value} (ha : VRs F r a ca.tmps) (hv : VR F r v u) : VRs F r (putV a dst v) (ca.put dst u).tmps := by
  cases dst with
  | none => exact ha
  | some d =>
    have hl : a.length = ca.tmps.size := ha.1
    refine VRs.of_get (by simp [putV, Act.put, hl]) fun i x hx => ?_
    simp only [putV, Act.put] at hx ⊢
    rw [List.getElem?_set] at hx
    rw [Array.getElem?_setIfInBounds]
    split at hx
    · rename_i hdi
      subst hdi
      split at hx
      · rename_i hlt
        cases hx
        rw [if_pos rfl, if_pos (by omega)]
        exact ⟨u, rfl, hv⟩
      · cases hx
    · rename_i hdi
      rw [if_neg hdi]
      exact ha.get hx

theorem wanted_sound {ops : Array Oper} {o : Oper} {i : Ins} {a : List V} {tmps : Array Value} (h : cIns P G ops o = some i) (ha : VRs F r a tmps) :
    Region.wanted o (yielded ops tmps) = wantedV i.guard a := by
  unfold cIns at h
  split at h
  · rename_i hg
    cases h
    simp [Region.wanted, hg, wantedV]
  · rename_i j b hg
    split at h
    · rename_i d hd
      cases h
      simp only [Region.wanted, hg, wantedV, yielded, hd, Option.bind_some]
      have hl : a.length = tmps.size := ha.1
      by_cases hlt : d < a.length
      · have hlt' : d < tmps.size := hl ▸ hlt
        rw [List.getElem?_eq_getElem hlt, Array.getElem?_eq_getElem hlt']
        have := ha.2 d hlt hlt'
        generalize a[d] = x at this
        generalize tmps[d] = y at this
        cases this <;> simp
      · have hlt1 : a.length ≤ d := Nat.le_of_not_lt hlt
        have hlt' : tmps.size ≤ d := hl ▸ hlt1
        rw [List.getElem?_eq_none hlt1, Array.getElem?_eq_none hlt']
        simp
    · cases h

theorem cIns_op {ops : Array Oper} {o : Oper} {i : Ins} (h : cIns P G ops o = some i) : i.op = cOpB P G o ∧ i.dst = o.dst := by
  unfold cIns at h
  split at h
  · cases h; exact ⟨rfl, rfl⟩
  · split at h
    · cases h; exact ⟨rfl, rfl⟩
    · cases h

theorem cOpB_run {call : CallV} {o : Oper} {a : List V} {m : Mem} {x : V × Mem} (h : opRun call (cOpB P G o) a m = some x) : cOp P G o = some (cOpB P G o) := by
  unfold cOpB at h ⊢
  cases ho : cOp P G o with
  | none => rw [ho] at h; cases h
  | some io => rfl

theorem cInss_get {ops : Array Oper} : ∀ {os : List Oper} {is : List Ins}, cInss P G ops os = some is → os.length = is.length ∧ ∀ k (h1 : k < os.length) (h2 : k < is.length), cIns P G ops os[k] = some is[k]
  | [], is, h => by cases h; exact ⟨rfl, fun k h => by cases h⟩
  | o :: os, is, h => by
    simp only [cInss] at h
    split at h
    · rename_i i is' h1 h2
      cases h
      obtain ⟨e1, e2⟩ := cInss_get h2
      refine ⟨by simp [e1], fun k hk1 hk2 => ?_⟩
      cases k with
      | zero => exact h1
      | succ k => exact e2 k (by simpa using hk1) (by simpa using hk2)
    · cases h

/-- A region without a draw. -/
theorem inss_sound {call : CallV} (hcall : CallOK K P G call) {ops : Array Oper} {all : List Ins} (hall : cInss P G ops ops.toList = some all) {rd : Option Nat} {n : Nat} {Q : Exit → Act → World → Prop}
    {F0 : Frz} {r0 : Loc} {m0 : Mem} {w0 : World} {m' : Mem} {a' : List V} :
    ∀ (k : Nat) {F : Frz} {r : Loc} {m : Mem} {w : World} {a : List V} {ca : Act}, k ≤ ops.size → Sim K F r m w → St F0 r0 m0 w0 F r m w → VRs F r a ca.tmps → GlobOK F G →
      inssRun call (all.drop (ops.size - k)) a m = some (a', m') →
      (∀ ca' w' F' r', ca'.defers = ca.defers → Sim K F' r' m' w' → St F0 r0 m0 w0 F' r' m' w' → VRs F' r' a' ca'.tmps → Q .normal ca' w') →
      wpOpsIn (fe rd) n P ops Q (List.range' (ops.size - k) k) ca w
  | 0, F, r, m, w, a, ca, _, hs, hst, ha, hG, hr, hQ => by
    obtain ⟨hl, hg⟩ := cInss_get hall
    simp only [Array.length_toList] at hl
    rw [Nat.sub_zero, hl, List.drop_length] at hr
    simp only [inssRun, Option.some.injEq, Prod.mk.injEq] at hr
    obtain ⟨rfl, rfl⟩ := hr
    simp only [List.range'_zero, wpOpsIn]
    exact hQ ca w F r rfl hs hst ha
  | k + 1, F, r, m, w, a, ca, hk, hs, hst, ha, hG, hr, hQ => by
    obtain ⟨hl, hg⟩ := cInss_get hall
    simp only [Array.length_toList] at hl
    have hi : ops.size - (k + 1) < ops.size := by omega
    have hi' : ops.size - (k + 1) < all.length := by omega
    have hcg := hg (ops.size - (k + 1)) (by simpa using hi) hi'
    simp only [Array.getElem_toList] at hcg
    rw [List.drop_eq_getElem_cons hi'] at hr
    have hnext : ops.size - (k + 1) + 1 = ops.size - k := by omega
    rw [hnext] at hr
    rw [List.range'_succ, hnext]
    simp only [wpOpsIn, Array.getElem?_eq_getElem hi]
    generalize all[ops.size - (k + 1)] = i at hcg hr
    generalize ops[ops.size - (k + 1)] = o at hcg
    obtain ⟨ho, hd⟩ := cIns_op hcg
    rw [wanted_sound hcg ha]
    simp only [inssRun, insRun] at hr
    split
    · rename_i hw
      rw [if_pos hw] at hr
      split at hr
      · rename_i a1 m1 h1
        split at h1
        · rename_i v m1' hv
          cases h1
          rw [ho] at hv
          refine oper_sound hcall hs ha hG (cOpB_run hv) hv fun u w' F' r' g1 g2 g3 => ?_
          refine inss_sound hcall hall k (by omega) g1 (hst.trans g2) ?_ (hG.mono g2.leF) hr fun ca' w'' F'' r'' d1 => hQ ca' w'' F'' r'' ?_
          · rw [hd]; exact (ha.mono g2.leF (hs.ler g2)).put g3
          · rw [d1]; cases o.dst <;> rfl
        · cases h1
      · cases hr
    · rename_i hw
      rw [if_neg hw] at hr
      simp only at hr
      refine ⟨fun f _ => fe_fn rd f, ?_⟩
      refine inss_sound hcall hall k (by omega) hs hst ?_ hG hr fun ca' w'' F'' r'' d1 => hQ ca' w'' F'' r'' ?_
      · rw [hd]; exact ha.put (.tup rfl fun i h => by cases h)
      · rw [d1]; cases o.dst <;> rfl

end
end Go.Proofs.YtjjgiigbhjfkaaaGreatDoor.Am

namespace Go.Proofs.YtjjgiigbhjfkaaaGreatDoor.Am
open Go

section
variable {K : CodeR} {F : Frz} {r : Loc} {m : Mem} {w : World} {P : Program} {G : Glob}

/-- Functions entered: as the model enters them. -/
def EnterOK (K : CodeR) (P : Program) (G : Glob) (enter : EnterV) : Prop :=
  ∀ {F : Frz} {r : Loc} {m : Mem} {w : World} {f : Nat} {args : List V} {uargs : Array Value} {v : V} {m' : Mem}, GlobOK F G → Sim K F r m w →
    VRs F r args uargs → enter f args m = some (v, m') →
      (callFunc f uargs).run P w = .ok (.enter f uargs) w ∧ ∀ n, CallsIn (fe none) n P f uargs w (retPost K F r m w v m')

/-- A block that none of ours is. -/
theorem Sim.allocU (s : Sim K F r m w) (o : Obj) : Sim K F r m (w.alloc o) := by
  refine ⟨s.dom, fun c ch hc => ?_, s.inj, fun b C hb => ?_⟩
  · obtain ⟨b, N, o', h1, h2, h3, h4⟩ := s.obj c ch hc
    refine ⟨b, N, o', h1, ?_, h3, h4⟩
    have := (Array.getElem?_eq_some_iff.1 h2).1
    rw [alloc_heap, Array.getElem?_push, if_neg (by omega)]; exact h2
  · obtain ⟨e, fr, h⟩ := s.frz b C hb
    have := (Array.getElem?_eq_some_iff.1 h).1
    exact ⟨e, fr, by rw [alloc_heap, Array.getElem?_push, if_neg (by omega)]; exact h⟩
theorem St.allocU (o : Obj) : St F r m w F r m (w.alloc o) where
  size := by simp
  msize := Nat.le_refl _
  keep b hb _ := by rw [alloc_heap, Array.getElem?_push]; rw [if_neg (by omega)]
  own _ _ h := h
  frz b hb h h' := absurd h h'
  leF := Frz.le_refl _
  ler _ _ := rfl
  dirt _ _ h := ⟨h, rfl⟩
  dead _ _ h := h
  io := ⟨rfl, rfl⟩

/-- The marks of range-over-function loops among the deferred calls. -/
def Marks (w0 : World) (r : Loc) (m : Mem) (w : World) (ds0 ds : List Deferred) : Prop :=
  ∃ ms : List Nat, ds = ms.map (fun b => { target := .collected b, args := #[] }) ++ ds0 ∧ ms.Nodup ∧
    ∀ b ∈ ms, w0.heap.size ≤ b ∧ w.heap[b]? = some (.deferred (some [])) ∧ ¬ Owned m r b

theorem Marks.refl {w0 : World} {ds} : Marks w0 r m w ds ds := ⟨[], rfl, List.nodup_nil, fun b h => by cases h⟩
theorem Marks.step {w0 : World} {F' r' m' w' ds0 ds} (h : Marks w0 r m w ds0 ds) (st : St F r m w F' r' m' w') : Marks w0 r' m' w' ds0 ds := by
  obtain ⟨ms, h1, h2, h3⟩ := h
  refine ⟨ms, h1, h2, fun b hb => ?_⟩
  obtain ⟨g1, g2, g3⟩ := h3 b hb
  have hlt := (Array.getElem?_eq_some_iff.1 g2).1
  exact ⟨g1, by rw [st.keep b hlt g3]; exact g2, fun o => g3 (st.own b hlt o)⟩
theorem Marks.trans {w0 w1 : World} {ds0 ds1 ds2} {F1 r1 m1 F' r' m' w'} (h : Marks w0 r1 m1 w1 ds0 ds1) (h' : Marks w1 r' m' w' ds1 ds2)
    (hle : w0.heap.size ≤ w1.heap.size) (st : St F1 r1 m1 w1 F' r' m' w') : Marks w0 r' m' w' ds0 ds2 := by
  obtain ⟨ms', e', n', h'⟩ := h'
  have hlt : ∀ b, (∃ ms : List Nat, ds1 = ms.map (fun b => ({ target := .collected b, args := #[] } : Deferred)) ++ ds0 ∧ b ∈ ms ∧ w1.heap[b]? = some (.deferred (some []))) → b < w1.heap.size := by
    rintro b ⟨ms, _, _, h⟩
    exact (Array.getElem?_eq_some_iff.1 h).1
  obtain ⟨ms, e, nd, h0⟩ := h
  obtain ⟨ms2, e2, n2, h2⟩ := Marks.step ⟨ms, e, nd, h0⟩ st
  refine ⟨ms' ++ ms, by rw [e', e, List.map_append, List.append_assoc], ?_, fun b hb => ?_⟩
  · refine List.nodup_append.2 ⟨n', nd, fun a ha b hb hab => ?_⟩
    subst hab
    have g1 := (h' a ha).1
    have g2 := (Array.getElem?_eq_some_iff.1 (h0 a hb).2.1).1
    omega
  · rcases List.mem_append.1 hb with hb | hb
    · obtain ⟨g1, g2, g3⟩ := h' b hb
      exact ⟨by omega, g2, g3⟩
    · obtain ⟨g1, g2, g3⟩ := h0 b hb
      have hl := (Array.getElem?_eq_some_iff.1 g2).1
      exact ⟨g1, by rw [st.keep b hl g3]; exact g2, fun o => g3 (st.own b hl o)⟩

def outX : Out → Exit
  | .norm => .normal
  | .exit id => .exit id
  | .ret => .ret

def RdOK (r : Loc) : Option Nat → Option Nat → Prop
  | none, none => True
  | some c, some b => ∃ N, r c = some (b, N)
  | _, _ => False
theorem RdOK.mono {r r' : Loc} {rd rdb} (h : RdOK r rd rdb) (hl : r.le r') : RdOK r' rd rdb := by
  cases rd <;> cases rdb <;> simp only [RdOK] at h ⊢
  obtain ⟨N, h⟩ := h
  exact ⟨N, hl _ _ h⟩

/-- What is asked of regions that draw. -/
def DrawOK (P : Program) (G : Glob) (call : CallV) : Prop :=
  ∀ {id : Nat} {ops : Array Oper} {is : List Ins} {F : Frz} {r : Loc} {m : Mem} {w : World} {a : List V} {ca : Act} {a' : List V} {m' : Mem} {rdb : Option Nat} {n : Nat}
    {Q : Exit → Act → World → Prop}, cInss P G ops ops.toList = some is → drawOK is (Region.before ops).toList (canon is (Region.before ops).toList) = true →
    Sim (KC P G) F r m w → VRs F r a ca.tmps → GlobOK F G →
    drawRun call is (Region.before ops).toList m.size (canon is (Region.before ops).toList) [] a (pads (is.countP fun x => x.op.cls == .A) m) = some (a', m') →
    (∀ ca' w' F' r', ca'.defers = ca.defers → Sim (KC P G) F' r' m' w' → St F r m w F' r' m' w' → VRs F' r' a' ca'.tmps → Q .normal ca' w') →
    (Code.region id ops true).wpIn (fe rdb) n P Q ca w

theorem run_enterLoop_inner {fn : FuncId} {tmps : Array Value} {ps : Array Tmp} {asg body : Code} {l : Nat} {lp : Loop} (h : w.heap[l]? = some (.loop lp)) :
    (Instr.enterLoop fn tmps ps asg body (some l)).run P w =
      .ok (w.heap.size, []) (w.alloc (.loop { state := .ready, pending := none, fn, tmps, params := ps, assign := asg, body, defers := lp.defers })) := by
  unfold Instr.enterLoop
  simp only [Sem.run_bind, run_getLoop h, run_newObj_alloc, Result.andThen, Sem.run_pure]

theorem enterLoop_any {fn : FuncId} {tmps : Array Value} {ps : Array Tmp} {asg body : Code} {rd rdb : Option Nat} (hs : Sim K F r m w) (hr : RdOK r rd rdb) (hin : inRound rd m = true) :
    ∃ l mark w0 lp, (Instr.enterLoop fn tmps ps asg body rdb).run P w = .ok (l, mark) (w0.alloc (.loop lp)) ∧ l = w0.heap.size ∧
      lp = { state := .ready, pending := none, fn, tmps, params := ps, assign := asg, body, defers := lp.defers } ∧
      Sim K F r m w0 ∧ St F r m w F r m w0 ∧ Marks w r m w0 [] mark := by
  cases rd with
  | none =>
    cases rdb with
    | some b => exact hr.elim
    | none =>
      refine ⟨_, _, w.alloc (.deferred (some [])), _, run_enterLoop_outer fn tmps ps asg body, by simp, rfl, hs.allocU _, .allocU _, [w.heap.size], rfl, by simp, fun b hb => ?_⟩
      simp only [List.mem_singleton] at hb
      subst hb
      refine ⟨Nat.le_refl _, World.alloc_heap_new _ _, ?_⟩
      rintro ⟨c, ch, N, hc, hrc⟩
      have := hs.block_lt hc hrc
      omega
  | some c =>
    cases rdb with
    | none => exact hr.elim
    | some b =>
      obtain ⟨N, hrc⟩ := hr
      simp only [inRound] at hin
      split at hin
      · rename_i lc hc
        obtain ⟨b', N', o, h1, h2, h3, h4⟩ := hs.obj _ _ hc
        rw [hrc] at h1; cases h1
        cases h3
        rename_i u _ _ _ _ _ _
        exact ⟨_, [], w, _, run_enterLoop_inner h2, rfl, rfl, hs, .refl .., .refl⟩
      · cases hin

theorem least {p : Nat → Prop} (h : ∃ k, p k) : ∃ k, p k ∧ ∀ j, p j → k ≤ j := by
  obtain ⟨k, hk⟩ := h
  induction k using Nat.strongRecOn with
  | _ k ih =>
    by_cases hl : ∃ j, j < k ∧ p j
    · obtain ⟨j, hj, hp⟩ := hl
      exact ih j hj hp
    · exact ⟨k, hk, fun j hj => Nat.le_of_not_lt fun hlt => hl ⟨j, hlt, hj⟩⟩

open Classical in
theorem iter_sound {f : List V → Mem → Option (Out × List V × Mem)} {c : Code} {rdb : Option Nat} {n : Nat} {Q : Exit → Act → World → Prop} {F0 : Frz} {r0 : Loc} {m0 : Mem} {w0 : World}
    {ds0 : List Deferred} {rd : Option Nat} {out : Out} {a' : List V} {m' : Mem}
    (hbody : ∀ {F r m w a} {ca : Act} {o a1 m1} {Q : Exit → Act → World → Prop}, Sim K F r m w → VRs F r a ca.tmps → GlobOK F G → RdOK r rd rdb → f a m = some (o, a1, m1) →
      (∀ ca' w' F' r', Sim K F' r' m1 w' → St F r m w F' r' m1 w' → VRs F' r' a1 ca'.tmps → Marks w r' m1 w' ca.defers ca'.defers → Q (outX o) ca' w') → c.wpIn (fe rdb) n P Q ca w)
    (hQ : ∀ ca' w' F' r', Sim K F' r' m' w' → St F0 r0 m0 w0 F' r' m' w' → VRs F' r' a' ca'.tmps → Marks w0 r' m' w' ds0 ca'.defers → Q (outX out) ca' w')
    {k : Nat} {m : Mem} {w : World} {F : Frz} {r : Loc} {a : List V} {ca : Act} (hs : Sim K F r m w) (ha : VRs F r a ca.tmps) (hG : GlobOK F G) (hr : RdOK r rd rdb)
    (hst : St F0 r0 m0 w0 F r m w) (hmk : Marks w0 r m w ds0 ca.defers) (h : iter f k a m = some (out, a', m')) : (Code.loop c).wpIn (fe rdb) n P Q ca w := by
  let J : Nat → Act → World → Prop := fun k ca w => ∃ F r m a, Sim K F r m w ∧ VRs F r a ca.tmps ∧ GlobOK F G ∧ RdOK r rd rdb ∧ St F0 r0 m0 w0 F r m w ∧ Marks w0 r m w ds0 ca.defers ∧
    iter f k a m = some (out, a', m')
  let μ : Act → World → Nat := fun ca w => if h : ∃ k, J k ca w then Classical.choose (least h) else 0
  refine wpIn_loop (fun ca w => ∃ k, J k ca w) μ ⟨k, F, r, m, a, hs, ha, hG, hr, hst, hmk, h⟩ fun ca w hI => ?_
  have hμ : J (μ ca w) ca w := by simp only [μ, dif_pos hI]; exact (Classical.choose_spec (least hI)).1
  generalize hk : μ ca w = k at hμ
  obtain ⟨F, r, m, a, hs, ha, hG, hr, hst, hmk, hit⟩ := hμ
  cases k with
  | zero => cases hit
  | succ k =>
    simp only [iter] at hit
    split at hit
    · rename_i a1 m1 hf
      refine hbody hs ha hG hr hf fun ca' w' F' r' g1 g2 g3 g4 => ?_
      have hJ : J k ca' w' := ⟨F', r', m1, a1, g1, g3, hG.mono g2.leF, hr.mono (hs.ler g2), hst.trans g2, hmk.trans g4 hst.size g2, hit⟩
      refine ⟨⟨k, hJ⟩, ?_⟩
      have hex : ∃ k, J k ca' w' := ⟨k, hJ⟩
      simp only [μ, dif_pos hex]
      have := (Classical.choose_spec (least hex)).2 k hJ
      omega
    · rename_i hne
      obtain ⟨o, a1, m1⟩ : Out × List V × Mem := (out, a', m')
      refine hbody hs ha hG hr hit fun ca' w' F' r' g1 g2 g3 g4 => ?_
      have hno : out ≠ .norm := by rintro rfl; exact hne _ _ hit
      have hfin := hQ ca' w' F' r' g1 (hst.trans g2) g3 (hmk.trans g4 hst.size g2)
      cases out with
      | norm => exact absurd rfl hno
      | exit id => exact hfin
      | ret => exact hfin

end
end Go.Proofs.YtjjgiigbhjfkaaaGreatDoor.Am

namespace Go.Proofs.YtjjgiigbhjfkaaaGreatDoor.Am
open Go

section
variable {F : Frz} {r : Loc} {m : Mem} {w : World} {P : Program} {G : Glob}

theorem Marks.same {w0 w1 : World} {ds0 ds} (h : Marks w0 r m w ds0 ds) (hs : w1.heap.size ≤ w0.heap.size) : Marks w1 r m w ds0 ds := by
  obtain ⟨ms, h1, h2, h3⟩ := h
  exact ⟨ms, h1, h2, fun b hb => ⟨Nat.le_trans hs (h3 b hb).1, (h3 b hb).2⟩⟩

/-- **A compiled body does what its code does.** -/
theorem code_sound {call : CallV} {enter : EnterV} (hcall : CallOK (KC P G) P G call) (henter : EnterOK (KC P G) P G enter) (hdraw : DrawOK P G call) {L n : Nat} {rd rdb : Option Nat} :
    ∀ (c : Code) {F : Frz} {r : Loc} {m : Mem} {w : World} {a : List V} {ca : Act} {out : Out} {a' : List V} {m' : Mem} {Q : Exit → Act → World → Prop},
      Sim (KC P G) F r m w → VRs F r a ca.tmps → GlobOK F G → RdOK r rd rdb → codeRun call enter L rd (cCode P G c) a m = some (out, a', m') →
      (∀ ca' w' F' r', Sim (KC P G) F' r' m' w' → St F r m w F' r' m' w' → VRs F' r' a' ca'.tmps → Marks w r' m' w' ca.defers ca'.defers → Q (outX out) ca' w') →
      c.wpIn (fe rdb) n P Q ca w := by
  have bad : ∀ {a m x}, codeRun call enter L rd IR.bad a m = some x → False := by
    intro a m x h; simp [IR.bad, codeRun, X.ev] at h
  intro c
  induction c with
  | skip =>
    intro F r m w a ca out a' m' Q hs ha hG hr h hQ
    simp only [cCode, codeRun, Option.some.injEq, Prod.mk.injEq] at h
    obtain ⟨rfl, rfl, rfl⟩ := h
    exact wpIn_skip (hQ ca w F r hs (.refl ..) ha .refl)
  | region id ops draw =>
    intro F r m w a ca out a' m' Q hs ha hG hr h hQ
    simp only [cCode] at h
    split at h
    · exact (bad h).elim
    · rename_i is his
      split at h
      · rename_i hd
        split at h
        · rename_i hok
          simp only [codeRun] at h
          split at h
          · rename_i a1 m1 hrun
            simp only [Option.some.injEq, Prod.mk.injEq] at h
            obtain ⟨rfl, rfl, rfl⟩ := h
            subst hd
            exact hdraw his hok hs ha hG hrun fun ca' w' F' r' d1 g1 g2 g3 => hQ ca' w' F' r' g1 g2 g3 (by rw [d1]; exact .refl)
          · cases h
        · exact (bad h).elim
      · rename_i hd
        have hd : draw = false := by simpa using hd
        subst hd
        simp only [codeRun] at h
        split at h
        · rename_i a1 m1 hrun
          simp only [Option.some.injEq, Prod.mk.injEq] at h
          obtain ⟨rfl, rfl, rfl⟩ := h
          refine wpIn_region ?_
          have := inss_sound hcall his (rd := rdb) (n := n) (Q := Q) (F0 := F) (r0 := r) (m0 := m) (w0 := w) (m' := m1) (a' := a1) ops.size (Nat.le_refl _) hs (.refl ..) ha hG
            (by rw [Nat.sub_self, List.drop_zero]; exact hrun) (fun ca' w' F' r' d1 g1 g2 g3 => hQ ca' w' F' r' g1 g2 g3 (by rw [d1]; exact .refl))
          rw [Nat.sub_self] at this
          rw [List.range_eq_range']
          exact this
        · cases h
  | seq x y ihx ihy =>
    intro F r m w a ca out a' m' Q hs ha hG hr h hQ
    simp only [cCode, codeRun] at h
    refine wpIn_seq ?_
    split at h
    · rename_i a1 m1 hx
      refine ihx hs ha hG hr hx fun ca1 w1 F1 r1 g1 g2 g3 g4 => ?_
      refine ihy g1 g3 (hG.mono g2.leF) (hr.mono (hs.ler g2)) h fun ca' w' F' r' k1 k2 k3 k4 => ?_
      exact hQ ca' w' F' r' k1 (g2.trans k2) k3 (g4.trans k4 g2.size k2)
    · rename_i hne
      refine ihx hs ha hG hr h fun ca1 w1 F1 r1 g1 g2 g3 g4 => ?_
      have hfin := hQ ca1 w1 F1 r1 g1 g2 g3 g4
      cases out with
      | norm => exact absurd h (hne _ _)
      | exit id => exact hfin
      | ret => exact hfin
  | cond c x y ihx ihy =>
    intro F r m w a ca out a' m' Q hs ha hG hr h hQ
    simp only [cCode] at h
    split at h
    · rename_i xc hc
      have hv := cX_sound hc ha hG
      simp only [codeRun] at h
      split at h
      · rename_i hb
        rw [hb] at hv
        refine wpIn_cond (t := true) (by generalize ca.eval c = u at hv; cases hv; rfl) ?_
        exact ihx hs ha hG hr h hQ
      · rename_i hb
        rw [hb] at hv
        refine wpIn_cond (t := false) (by generalize ca.eval c = u at hv; cases hv; rfl) ?_
        exact ihy hs ha hG hr h hQ
      · cases h
    · exact (bad h).elim
  | block id x ih =>
    intro F r m w a ca out a' m' Q hs ha hG hr h hQ
    simp only [cCode, codeRun] at h
    refine wpIn_block ?_
    split at h
    · rename_i id' a1 m1 hx
      refine ih hs ha hG hr hx fun ca1 w1 F1 r1 g1 g2 g3 g4 => ?_
      split at h
      · rename_i hid
        simp only [Option.some.injEq, Prod.mk.injEq] at h
        obtain ⟨rfl, rfl, rfl⟩ := h
        simp only [outX, Exit.inBlock, hid, if_true]
        exact hQ ca1 w1 F1 r1 g1 g2 g3 g4
      · rename_i hid
        simp only [Option.some.injEq, Prod.mk.injEq] at h
        obtain ⟨rfl, rfl, rfl⟩ := h
        simp only [outX, Exit.inBlock, hid, if_false]
        exact hQ ca1 w1 F1 r1 g1 g2 g3 g4
    · rename_i hne
      refine ih hs ha hG hr h fun ca1 w1 F1 r1 g1 g2 g3 g4 => ?_
      have hfin := hQ ca1 w1 F1 r1 g1 g2 g3 g4
      cases out with
      | norm => exact hfin
      | exit id => exact absurd h (hne _ _ _)
      | ret => exact hfin
  | loop x ih =>
    intro F r m w a ca out a' m' Q hs ha hG hr h hQ
    simp only [cCode, codeRun] at h
    exact iter_sound (fun {F r m w a ca o a1 m1 Q} h1 h2 h3 h4 h5 h6 => ih h1 h2 h3 h4 h5 h6) hQ hs ha hG hr (.refl ..) .refl h
  | exit id =>
    intro F r m w a ca out a' m' Q hs ha hG hr h hQ
    simp only [cCode, codeRun, Option.some.injEq, Prod.mk.injEq] at h
    obtain ⟨rfl, rfl, rfl⟩ := h
    exact wpIn_exit (hQ ca w F r hs (.refl ..) ha .refl)
  | ret =>
    intro F r m w a ca out a' m' Q hs ha hG hr h hQ
    simp only [cCode, codeRun, Option.some.injEq, Prod.mk.injEq] at h
    obtain ⟨rfl, rfl, rfl⟩ := h
    exact wpIn_ret (hQ ca w F r hs (.refl ..) ha .refl)
  | rangeFunc g ps asg body iha ihb =>
    intro F r m w a ca out a' m' Q hs ha hG hr h hQ
    simp only [cCode] at h
    split at h
    · rename_i fx hf
      have hv := cX_sound hf ha hG
      simp only [codeRun] at h
      split at h
      · rename_i gid cap hfv
        split at h
        · cases h
        · rename_i hin
          have hin : inRound rd m = true := by simpa using hin
          rw [hfv] at hv
          split at h
          · rename_i v m1 hent
            refine wpIn_rangeFunc fun fn _ => ?_
            obtain ⟨l, mark, w0, lp, he, hl, hlp, s0, st0, mk0⟩ := enterLoop_any (P := P) (fn := fn) (tmps := ca.tmps) (ps := ps) (asg := asg) (body := body) hs hr hin
            generalize hug : ca.eval g = ug at hv
            cases hv with | fn hcl hcv =>
            rename_i ucap
            -- the loop's record
            have hobj : ObjR (KC P G) F (r.put m.size (w0.heap.size, 0)) 0 (.loop ⟨.ready, none, a, ps.toList, cCode P G asg, cCode P G body⟩) (.loop lp) := by
              rw [hlp]
              exact .loop trivial trivial (ha.mono (Frz.le_refl _) (s0.le_put _)) rfl rfl rfl
            have s1 := s0.push hobj
            have st1 := s0.st_push (.loop ⟨.ready, none, a, ps.toList, cCode P G asg, cCode P G body⟩) (.loop lp) 0
            have st01 := st0.trans st1
            have hyl : VR F (r.put m.size (w0.heap.size, 0)) (.yield m.size) (.func (.yield l) #[] #[]) := by
              rw [hl]; exact .yield (Loc.put_same ..)
            have hargs : VRs F (r.put m.size (w0.heap.size, 0)) ([.yield m.size] ++ cap) (#[.func (.yield l) #[] #[]] ++ ucap) := by
              refine VRs.append (VRs.nil.push hyl) (VRs.mono ⟨hcl, hcv⟩ (Frz.le_refl _) (s0.le_put _))
            obtain ⟨hinv, hcalls⟩ := henter hG s1 hargs hent
            refine ⟨l, mark, w0.alloc (.loop lp), { target := .fn (.func gid) ucap, args := #[.func (.yield l) #[] #[]] }, w0.alloc (.loop lp), gid, #[Value.func (.yield l) #[] #[]] ++ ucap,
              w0.alloc (.loop lp), he, ?_, fun f' _ => fe_fn rdb f', hinv, fun hh => by simp [fe_depth] at hh, ?_⟩
            · simp only [resolve, rangeCall, hug, Deferred.ofValue]
              simp [Act.eval]
            · refine calls_fe (calls_mono (hcalls (n - 1)) ?_)
              intro e w3 hp
              cases e with
              | panicked c => exact hp.elim
              | outgrown => exact hp.elim
              | returned u =>
                obtain ⟨F3, r3, s3, st3, _⟩ := hp
                split at h
                · rename_i lc hlc
                  split at h
                  · cases h
                  · rename_i hbusy
                    obtain ⟨b, N, o, k1, k2, k3, k4⟩ := s3.obj _ _ hlc
                    have hr3 : r3 m.size = some (w0.heap.size, 0) := by
                      rw [st3.ler m.size (by simp)]; exact Loc.put_same ..
                    have hr3' := hr3
                    rw [k1] at hr3; cases hr3
                    cases k3 with | loop q1 q2 q3 q4 q5 q6 =>
                    rename_i lp3
                    have hnb : lp3.state ≠ .busy := by
                      intro hb
                      rw [hb] at q1
                      cases hst : lc.state with
                      | busy => exact hbusy hst
                      | ready => rw [hst] at q1; exact q1
                      | done => rw [hst] at q1; exact q1
                      | exhausted => rw [hst] at q1; exact q1
                    have k2' : w3.heap[l]? = some (.loop lp3) := by rw [hl]; exact k2
                    have hend := run_endLoop (P := P) k2' hnb
                    have s4 : Sim (KC P G) F3 r3 (m1.set m.size (.loop { lc with state := .exhausted })) (w3.putObj l (.loop { lp3 with state := .exhausted })) := by
                      have := s3.set (ch' := .loop { lc with state := .exhausted }) (o := .loop { lp3 with state := .exhausted }) hlc k1 (.loop trivial q2 q3 q4 q5 q6)
                      rw [hl]; exact this
                    have st4 : St F3 r3 m1 w3 F3 r3 (m1.set m.size (.loop { lc with state := .exhausted })) (w3.putObj l (.loop { lp3 with state := .exhausted })) := by
                      have := s3.st_set hlc k1 (.loop { lc with state := .exhausted }) (.loop { lp3 with state := .exhausted })
                      rw [hl]; exact this
                    have stAll := (st01.trans st3).trans st4
                    have hmk : Marks w r3 (m1.set m.size (.loop { lc with state := .exhausted })) (w3.putObj l (.loop { lp3 with state := .exhausted })) ca.defers (mark ++ ca.defers) := by
                      obtain ⟨ms, e1, e2, e3⟩ := ((mk0.step st1).step st3).step st4
                      exact ⟨ms, by rw [e1, List.append_nil], e2, e3⟩
                    clear st4
                    generalize w3.putObj l (.loop { lp3 with state := .exhausted }) = W at hend s4 stAll hmk
                    refine ⟨lp3.pending, W, hend, ?_⟩
                    split at h
                    · rename_i hpend
                      simp only [Option.some.injEq, Prod.mk.injEq] at h
                      obtain ⟨rfl, rfl, rfl⟩ := h
                      rw [hpend] at q2
                      cases hp3 : lp3.pending with
                      | none => exact hQ _ _ F3 r3 s4 stAll (ha.mono stAll.leF (hs.ler stAll)) hmk
                      | some j => rw [hp3] at q2; exact q2.elim
                    · rename_i j hpend
                      simp only [Option.some.injEq, Prod.mk.injEq] at h
                      obtain ⟨rfl, rfl, rfl⟩ := h
                      rw [hpend] at q2
                      have hfin := hQ { ca with defers := mark ++ ca.defers } _ F3 r3 s4 stAll (ha.mono stAll.leF (hs.ler stAll)) hmk
                      cases hp3 : lp3.pending with
                      | none => rw [hp3] at q2; cases j <;> exact q2.elim
                      | some jc =>
                        rw [hp3] at q2
                        cases j with
                        | ret =>
                          cases jc <;> first | exact q2.elim | exact wpIn_ret hfin
                        | exit id =>
                          cases jc <;> first | exact q2.elim | (simp only [JumpR] at q2; subst q2; exact wpIn_exit hfin)
                · cases h
          · cases h
      · cases h
    · exact (bad h).elim
  | scope x ih => intro F r m w a ca out a' m' Q hs ha hG hr h hQ; exact (bad h).elim
  | label x => intro F r m w a ca out a' m' Q hs ha hG hr h hQ; exact (bad h).elim
  | goto x => intro F r m w a ca out a' m' Q hs ha hG hr h hQ; exact (bad h).elim
  | refuse x => intro F r m w a ca out a' m' Q hs ha hG hr h hQ; exact (bad h).elim

end
end Go.Proofs.YtjjgiigbhjfkaaaGreatDoor.Am

namespace Go.Proofs.YtjjgiigbhjfkaaaGreatDoor.Am
open Go

section
variable {K : CodeR} {F : Frz} {r : Loc} {m : Mem} {w : World} {P : Program} {G : Glob}

theorem V.unders_of {n : Nat} : ∀ {vs : List V}, (∀ i (h : i < vs.length), vs[i].under n = true) → V.unders n vs = true
  | [], _ => rfl
  | v :: vs, h => by
    simp only [V.unders, Bool.and_eq_true]
    exact ⟨h 0 (by simp), V.unders_of fun i hi => h (i + 1) (by simp; omega)⟩

theorem VR.under {n : Nat} {v : V} {u : Value} (h : VR F r v u) (hr : ∀ c x, r c = some x → c < n) : v.under n = true := by
  induction h with
  | bool => rfl
  | int => rfl
  | str _ => rfl
  | nilp => rfl
  | ptr e => simpa [V.under] using hr _ _ e
  | fp _ _ _ _ => rfl
  | nils => rfl
  | sl e _ _ _ _ => simpa [V.under] using hr _ _ e
  | lst _ _ _ _ _ _ => rfl
  | nilm => rfl
  | mp e => simpa [V.under] using hr _ _ e
  | fn hl _ ih => exact V.unders_of fun i hi => ih i hi (by omega) hr
  | yield e => simpa [V.under] using hr _ _ e
  | nilf => rfl
  | nili => rfl
  | iface _ ih => exact ih hr
  | agg hl _ ih => exact V.unders_of fun i hi => ih i hi (by omega) hr
  | tup hl _ ih => exact V.unders_of fun i hi => ih i hi (by omega) hr

theorem ObjR.under {n N : Nat} {ch : Chunk} {o : Obj} (h : ObjR K F r N ch o) (hr : ∀ c x, r c = some x → c < n) : ch.under n = true := by
  cases h with
  | cells h1 hle h2 h3 => exact V.unders_of fun i hi => (h2 i hi (by omega)).under hr
  | map h1 h2 =>
    simp only [Chunk.under, List.all_eq_true, Bool.and_eq_true]
    intro e he
    obtain ⟨i, hi, rfl⟩ := List.getElem_of_mem he
    exact ⟨(h2 i hi (by omega)).1.under hr, (h2 i hi (by omega)).2.1.under hr⟩
  | loop h1 h2 h3 h4 h5 h6 =>
    have hl := h3.1
    exact V.unders_of fun i hi => (h3.2 i hi (by omega)).under hr
  | siter h => rfl
  | miter0 => rfl
  | miter h => simpa [Chunk.under] using hr _ _ h

theorem ObjR.cut {n N : Nat} {ch : Chunk} {o : Obj} {r' : Loc} (h : ObjR K F r N ch o) (hu : ch.under n = true) (hr : ∀ c x, c < n → r c = some x → r' c = some x) :
    ObjR K F r' N ch o := by
  cases h with
  | cells h1 hle h2 h3 => exact .cells h1 hle (fun i a b => (h2 i a b).cut (V.unders_get hu i a) hr) h3
  | map h1 h2 =>
    simp only [Chunk.under, List.all_eq_true, Bool.and_eq_true] at hu
    exact .map h1 fun i a b => by
      have hm := hu _ (List.getElem_mem a)
      exact ⟨(h2 i a b).1.cut hm.1 hr, (h2 i a b).2.1.cut hm.2 hr, (h2 i a b).2.2⟩
  | loop h1 h2 h3 h4 h5 h6 =>
    exact .loop h1 h2 ⟨h3.1, fun i a b => (h3.2 i a b).cut (V.unders_get hu i a) hr⟩ h4 h5 h6
  | siter h => exact .siter h
  | miter0 => exact .miter0
  | miter h => exact .miter (hr _ _ (by simpa [Chunk.under] using hu) h)

theorem Mem.get_d (m : Mem) (d : List Nat) (c : Nat) : ({ m with d := d } : Mem).get c = m.get c := rfl
theorem Owned.d {d : List Nat} {b : Nat} : Owned { m with d := d } r b ↔ Owned m r b := Iff.rfl
theorem Sim.d (s : Sim K F r m w) (d : List Nat) : Sim K F r { m with d := d } w := ⟨s.dom, s.obj, s.inj, s.frz⟩

theorem popM_get {n : Nat} {d0 : List Nat} (hn : n ≤ m.size) (c : Nat) : (popM n d0 m).get c = if c < n then m.get c else none := by
  unfold Mem.get popM
  simp only
  split
  · rename_i hc
    rw [if_pos (by omega)]
    rw [List.getElem?_drop]
    rw [show m.size - n + (n - 1 - c) = m.size - 1 - c by omega]
  · rfl

theorem dirtyOK_mem {n : Nat} : ∀ {d : List Nat}, dirtyOK n m d = true → ∀ c ∈ d, c < n → ∀ ch, m.get c = some ch → ch.under n = true
  | [], _, c, h, _, _, _ => by cases h
  | c0 :: d, hd, c, h, hc, ch, hg => by
    simp only [dirtyOK, Bool.and_eq_true, Bool.or_eq_true, decide_eq_true_eq] at hd
    rcases List.mem_cons.1 h with rfl | h
    · rcases hd.1 with h1 | h1
      · omega
      · rw [hg] at h1; exact h1
    · exact dirtyOK_mem hd.2 c h hc ch hg

/-- What a function hands back. -/
theorem giveBack_sound {F' : Frz} {r' : Loc} {m1 : Mem} {w' : World} {v v2 : V} {u : Value} {m2 : Mem} (s0 : Sim K F r m w) (s1 : Sim K F' r' m1 w')
    (st : St F r { m with d := [] } w F' r' m1 w') (hv : VR F' r' v u) (h : giveBack m.size m.d v m1 = (v2, m2)) :
    ∃ r'', Sim K F' r'' m2 w' ∧ St F r m w F' r'' m2 w' ∧ VR F' r'' v2 u := by
  unfold giveBack at h
  split at h
  · rename_i hc
    simp only [Bool.and_eq_true] at hc
    obtain ⟨hvu, hdo⟩ := hc
    cases h
    have hn : m.size ≤ m1.size := st.msize
    let r2 : Loc := fun c => if c < m.size then r' c else none
    have hcut : ∀ c x, c < m.size → r' c = some x → r2 c = some x := fun c x hc hx => by simp only [r2, if_pos hc]; exact hx
    have hund : ∀ c ch, c < m.size → m1.get c = some ch → ch.under m.size = true := by
      intro c ch hc hg
      by_cases hcd : c ∈ m1.d
      · exact dirtyOK_mem hdo c hcd hc ch hg
      · have := (st.dirt c hc hcd).2
        rw [hg] at this
        obtain ⟨b, N, o, _, _, h3, _⟩ := s0.obj c ch this.symm
        exact h3.under s0.dom
    refine ⟨r2, ⟨fun c x hx => ?_, fun c ch hg => ?_, fun c c' ch ch' b N N' g1 g2 e1 e2 => ?_, s1.frz⟩, ⟨st.size, Nat.le_refl _, st.keep, fun b hb ho => ?_, st.frz, st.leF, fun c hc => ?_, fun c hc hd => ?_, fun c hc hd => ?_, st.io⟩,
      hv.cut hvu hcut⟩
    · simp only [r2] at hx
      split at hx
      · assumption
      · cases hx
    · rw [popM_get hn] at hg
      split at hg
      · rename_i hc
        obtain ⟨b, N, o, h1, h2, h3, h4⟩ := s1.obj c ch hg
        exact ⟨b, N, o, hcut _ _ hc h1, h2, h3.cut (hund c ch hc hg) hcut, h4⟩
      · cases hg
    · rw [popM_get hn] at g1 g2
      split at g1
      · split at g2
        · rename_i h1 h2
          simp only [r2, if_pos h1] at e1
          simp only [r2, if_pos h2] at e2
          exact s1.inj c c' ch ch' b N N' g1 g2 e1 e2
        · cases g2
      · cases g1
    · obtain ⟨c, ch, N, hg, hr⟩ := ho
      rw [popM_get hn] at hg
      split at hg
      · rename_i hc
        simp only [r2, if_pos hc] at hr
        exact st.own b hb ⟨c, ch, N, hg, hr⟩
      · cases hg
    · simp only [r2, if_pos hc]
      exact st.ler c hc
    · have hd' : c ∉ m1.d.filter (fun c => decide (c < m.size)) ++ m.d := hd
      simp only [List.mem_append, List.mem_filter, decide_eq_true_eq, not_or, not_and] at hd'
      have hcd : c ∉ m1.d := fun h => hd'.1 h hc
      refine ⟨hd'.2, ?_⟩
      rw [popM_get hn, if_pos hc]
      exact (st.dirt c hc hcd).2
    · rw [popM_get hn, if_pos hc]
      exact st.dead c hc hd
  · cases h
    refine ⟨r', s1.d _, ⟨st.size, st.msize, st.keep, st.own, st.frz, st.leF, st.ler, fun c hc hd => ?_, st.dead, st.io⟩, hv⟩
    have hd' : c ∉ m1.d ++ m.d := hd
    simp only [List.mem_append, not_or] at hd'
    exact ⟨hd'.2, (st.dirt c hc hd'.1).2⟩

end
end Go.Proofs.YtjjgiigbhjfkaaaGreatDoor.Am

namespace Go.Proofs.YtjjgiigbhjfkaaaGreatDoor.Am
open Go

section
variable {K : CodeR} {w : World} {r : Loc}

def MemoOK (F : Frz) (r : Loc) (ms : Memo) : Prop := ∀ c cs, Memo.find c ms = some cs → ∀ b N, r c = some (b, N) → ∃ C, F b = some C ∧ C.size = N ∧ Win F nowhere cs C 0

theorem MemoOK.mono {F F' : Frz} {ms} (h : MemoOK F r ms) (hF : F.le F') : MemoOK F' r ms := fun c cs hf b N hr => by
  obtain ⟨C, h1, h2, h3⟩ := h c cs hf b N hr
  exact ⟨C, hF _ _ h1, h2, h3.mono hF (Loc.le_refl _)⟩

/-- One freezing. -/
structure Fz (K : CodeR) (r : Loc) (w : World) (F : Frz) (m : Mem) (F' : Frz) (m' : Mem) (ms' : Memo) : Prop where
  sim : Sim K F' r m' w
  st : St F r m w F' r m' w
  memo : MemoOK F' r ms'

def Frz.put (F : Frz) (b : Nat) (C : Array Value) : Frz := fun b' => if b' = b then some C else F b'

theorem VRs.cons {F r} {v : V} {vs : List V} {u : Value} {us : List Value} (hv : VR F r v u) (h : VRs F r vs ⟨us⟩) : VRs F r (v :: vs) ⟨u :: us⟩ := by
  have hl := h.1
  refine ⟨by simpa using hl, fun i h1 h2 => ?_⟩
  cases i with
  | zero => exact hv
  | succ i => exact h.2 i (by simpa using h1) (by simpa using h2)
theorem VR.cons' {F r} {v : V} {vs : List V} {u : Value} {us : List Value} (hv : VR F r v u) (h : VRs F r vs ⟨us⟩) : VRs F r (v :: vs) ⟨u :: us⟩ := VRs.cons hv h
theorem VRs.uncons {F r} {v : V} {vs : List V} {us : List Value} (h : VRs F r (v :: vs) ⟨us⟩) : ∃ u us', us = u :: us' ∧ VR F r v u ∧ VRs F r vs ⟨us'⟩ := by
  cases us with
  | nil => have := h.1; simp at this
  | cons u us =>
    refine ⟨u, us, rfl, h.2 0 (by simp) (by simp), by have := h.1; simpa using this, fun i h1 h2 => ?_⟩
    have := h.2 (i + 1) (by simp; omega) (by simp at h2 ⊢; omega)
    simpa using this

theorem freeze_sound : ∀ (k : Nat),
    (∀ {F : Frz} {ms ms' : Memo} {m m' : Mem} {v v' : V} {u : Value}, Sim K F r m w → MemoOK F r ms → VR F r v u → freezeV k ms m v = some (v', ms', m') →
      ∃ F', Fz K r w F m F' m' ms' ∧ VR F' nowhere v' u) ∧
    (∀ {F : Frz} {ms ms' : Memo} {m m' : Mem} {vs vs' : List V} {us : List Value}, Sim K F r m w → MemoOK F r ms → VRs F r vs ⟨us⟩ → freezeVs k ms m vs = some (vs', ms', m') →
      ∃ F', Fz K r w F m F' m' ms' ∧ VRs F' nowhere vs' ⟨us⟩) ∧
    (∀ {F : Frz} {ms ms' : Memo} {m m' : Mem} {c : Nat} {cs' : List V} {b N : Nat}, Sim K F r m w → MemoOK F r ms → r c = some (b, N) → freezeC k ms m c = some (cs', ms', m') →
      ∃ F', Fz K r w F m F' m' ms' ∧ ∃ C, F' b = some C ∧ C.size = N ∧ Win F' nowhere cs' C 0)
  | 0 => ⟨fun _ _ _ h => by simp [freezeV] at h, fun _ _ _ h => by simp [freezeVs] at h, fun _ _ _ h => by simp [freezeC] at h⟩
  | k + 1 => by
    obtain ⟨ihV, ihVs, ihC⟩ := freeze_sound k
    refine ⟨?_, ?_, ?_⟩
    · intro F ms ms' m m' v v' u hs hm hv h
      cases hv <;> simp only [freezeV] at h
      case bool => cases h; exact ⟨F, ⟨hs, .refl .., hm⟩, .bool⟩
      case int => cases h; exact ⟨F, ⟨hs, .refl .., hm⟩, .int⟩
      case str hb => cases h; exact ⟨F, ⟨hs, .refl .., hm⟩, .str hb⟩
      case nilp => cases h; exact ⟨F, ⟨hs, .refl .., hm⟩, .nilp⟩
      case ptr c off b N hr =>
        split at h
        · rename_i cs ms1 m1 hc
          cases h
          obtain ⟨F', fz, C, h1, h2, h3⟩ := ihC hs hm hr hc
          refine ⟨F', fz, ?_⟩
          have := VR.fp (F := F') (r := nowhere) (off := off) (o := 0) h1 (by have := h3.1; simpa using this) (fun i a b => h3.2 i a b)
          simpa using this
        · cases h
      case fp cs off b o C hF hl hc => cases h; exact ⟨F, ⟨hs, .refl .., hm⟩, .fp hF hl hc⟩
      case nils => cases h; exact ⟨F, ⟨hs, .refl .., hm⟩, .nils⟩
      case sl c off off' len esz cap b N kk ho hle hlk hcap hr =>
        split at h
        · rename_i cs ms1 m1 hc
          split at h
          · rename_i hcond
            cases h
            obtain ⟨F', fz, C, h1, h2, h3⟩ := ihC hs hm hr hc
            have hoff : off' = off := by rcases ho with h | h <;> omega
            subst hoff
            have h3' := h3.take_drop hcond.1
            rw [Nat.zero_add] at h3'
            exact ⟨F', fz, .lst h1 h3'.1 h3'.2 hlk (fun hcl => by
              have := of_decide_eq_true hcl
              exact hcap _ this)⟩
          · cases h
        · cases h
      case lst cs len clip b o kk C hF hl hc h1 h2 => cases h; exact ⟨F, ⟨hs, .refl .., hm⟩, .lst hF hl hc h1 h2⟩
      case nilm => cases h; exact ⟨F, ⟨hs, .refl .., hm⟩, .nilm⟩
      case mp => cases h
      case fn f cap ucap hl hc =>
        split at h
        · rename_i cap' ms1 m1 hcs
          cases h
          obtain ⟨F', fz, hv'⟩ := ihVs (us := ucap.toList) hs hm ⟨hl, hc⟩ hcs
          exact ⟨F', fz, .fn hv'.1 hv'.2⟩
        · cases h
      case yield => cases h
      case nilf => cases h; exact ⟨F, ⟨hs, .refl .., hm⟩, .nilf⟩
      case nili => cases h; exact ⟨F, ⟨hs, .refl .., hm⟩, .nili⟩
      case iface t v u hv =>
        split at h
        · rename_i v1 ms1 m1 h1
          cases h
          obtain ⟨F', fz, hv'⟩ := ihV hs hm hv h1
          exact ⟨F', fz, .iface hv'⟩
        · cases h
      case agg cs us hl hc =>
        split at h
        · rename_i cap' ms1 m1 hcs
          cases h
          obtain ⟨F', fz, hv'⟩ := ihVs (us := us.toList) hs hm ⟨hl, hc⟩ hcs
          exact ⟨F', fz, .agg hv'.1 hv'.2⟩
        · cases h
      case tup cs us hl hc =>
        split at h
        · rename_i cap' ms1 m1 hcs
          cases h
          obtain ⟨F', fz, hv'⟩ := ihVs (us := us.toList) hs hm ⟨hl, hc⟩ hcs
          exact ⟨F', fz, .tup hv'.1 hv'.2⟩
        · cases h
    · intro F ms ms' m m' vs vs' us hs hm hv h
      cases vs with
      | nil =>
        simp only [freezeVs, Option.some.injEq, Prod.mk.injEq] at h
        obtain ⟨rfl, rfl, rfl⟩ := h
        exact ⟨F, ⟨hs, .refl .., hm⟩, hv.1, fun i h => by cases h⟩
      | cons v vs =>
        simp only [freezeVs] at h
        split at h
        · rename_i v1 ms1 m1 h1
          split at h
          · rename_i vs2 ms2 m2 h2
            cases h
            obtain ⟨u, us', rfl, hv1, hvs⟩ := hv.uncons
            obtain ⟨F1, fz1, g1⟩ := ihV hs hm hv1 h1
            obtain ⟨F2, fz2, g2⟩ := ihVs fz1.sim fz1.memo (hvs.mono fz1.st.leF (Loc.le_refl _)) h2
            exact ⟨F2, ⟨fz2.sim, fz1.st.trans fz2.st, fz2.memo⟩, (g1.mono fz2.st.leF (Loc.le_refl _)).cons' g2⟩
          · cases h
        · cases h
    · intro F ms ms' m m' c cs' b N hs hm hr h
      simp only [freezeC] at h
      split at h
      · rename_i cs hf
        cases h
        obtain ⟨C, h1, h2, h3⟩ := hm c _ hf b N hr
        exact ⟨F, ⟨hs, .refl .., hm⟩, C, h1, h2, h3⟩
      · split at h
        · rename_i e cs ro hc
          split at h
          · rename_i cs1 ms1 m1 hcs
            cases h
            obtain ⟨b', N', o, g1, g2, g3, g4⟩ := hs.obj _ _ hc
            rw [hr] at g1; cases g1
            obtain ⟨C, fr, rfl, hN, hw, hfz⟩ := g3.win
            have hk := hs.kill hc
            have hst := hs.st_kill (m := m) (w := w) hc
            have hws : VRs F r cs ⟨C.toList.take cs.length⟩ := by
              have := hw.1
              refine ⟨by simp; omega, fun i h1 h2 => ?_⟩
              have := hw.2 i h1 (by omega)
              simpa using this
            obtain ⟨F1, fz1, hv1⟩ := ihVs hk hm hws hcs
            have hno : ¬ Owned (m.set c .dead) r b := by
              rintro ⟨c1, ch1, N1, k1, k2⟩
              rcases Mem.get_set hc k1 with ⟨_, _, hh⟩ | ⟨hne, hg⟩
              · exact absurd rfl hh
              · exact hne (hs.inj _ _ _ _ _ _ _ hg hc k2 hr)
            have hblt := hs.block_lt hc hr
            have hno1 : ¬ Owned m' r b := fun o => hno (fz1.st.own b hblt o)
            have hF1 : F1 b = none := by
              cases hfb : F1 b with
              | none => rfl
              | some C' => exact absurd (fz1.st.frz b hblt g4 (by rw [hfb]; simp)) hno
            have hle : F1.le (F1.put b C) := fun b' C' hb' => by
              unfold Frz.put
              split
              · rename_i hbb; subst hbb; rw [hF1] at hb'; cases hb'
              · exact hb'
            have hput : (F1.put b C) b = some C := by simp [Frz.put]
            have hl1 : cs'.length = cs.length := by
              have a1 := hv1.1
              have a2 := hws.1
              omega
            have hwin : Win (F1.put b C) nowhere cs' C 0 := by
              have := hw.1
              refine ⟨by omega, fun i h1 h2 => ?_⟩
              have hh := hv1.2 i h1 (by simp; omega)
              have hh' := hh.mono hle (Loc.le_refl _)
              simpa using hh'
            have hsim : Sim K (F1.put b C) r m' w := by
              refine ⟨fz1.sim.dom, fun c1 ch1 k1 => ?_, fz1.sim.inj, fun b1 C1 hb1 => ?_⟩
              · obtain ⟨b1, N1, o1, q1, q2, q3, q4⟩ := fz1.sim.obj _ _ k1
                refine ⟨b1, N1, o1, q1, q2, q3.mono hle (Loc.le_refl _), ?_⟩
                unfold Frz.put
                split
                · rename_i hbb
                  subst hbb
                  exact absurd ⟨c1, ch1, N1, k1, q1⟩ hno1
                · exact q4
              · unfold Frz.put at hb1
                split at hb1
                · rename_i hbb
                  cases hb1; subst hbb
                  exact ⟨e, fr, g2⟩
                · exact fz1.sim.frz _ _ hb1
            refine ⟨F1.put b C, ⟨hsim, ?_, ?_⟩, C, hput, hN, hwin⟩
            · have hst1 := hst.trans fz1.st
              refine ⟨hst1.size, hst1.msize, hst1.keep, hst1.own, fun b1 hb1 hn1 hn2 => ?_, Frz.le_trans hst1.leF hle, hst1.ler, hst1.dirt, hst1.dead, hst1.io⟩
              by_cases hbb : b1 = b
              · subst hbb; exact ⟨c, _, N, hc, hr⟩
              · simp only [Frz.put, if_neg hbb] at hn2
                exact hst1.frz b1 hb1 hn1 hn2
            · intro c1 cs2 hf b1 N1 hr1
              simp only [Memo.find] at hf
              split at hf
              · rename_i hcc
                subst hcc
                cases hf
                rw [hr] at hr1; cases hr1
                exact ⟨C, hput, hN, hwin⟩
              · exact fz1.memo.mono hle c1 cs2 hf b1 N1 hr1
          · cases h
        · cases h

end
end Go.Proofs.YtjjgiigbhjfkaaaGreatDoor.Am

namespace Go.Proofs.YtjjgiigbhjfkaaaGreatDoor.Am
open Go

section
variable {K : CodeR} {F : Frz} {r : Loc} {m : Mem} {w : World} {P : Program} {G : Glob}

theorem freezeTs_sound {n k : Nat} : ∀ {vs : List V} {F : Frz} {ms ms' : Memo} {m m' : Mem} {vs' : List V} {us : List Value}, Sim K F r m w → MemoOK F r ms → VRs F r vs ⟨us⟩ →
    freezeTs n k ms m vs = some (vs', ms', m') → ∃ F', Fz K r w F m F' m' ms' ∧ VRs F' r vs' ⟨us⟩
  | [], F, ms, ms', m, m', vs', us, hs, hm, hv, h => by
    cases h
    exact ⟨F, ⟨hs, .refl .., hm⟩, hv⟩
  | v :: vs, F, ms, ms', m, m', vs', us, hs, hm, hv, h => by
    simp only [freezeTs] at h
    split at h
    · rename_i v1 ms1 m1 h1
      split at h
      · rename_i vs2 ms2 m2 h2
        cases h
        obtain ⟨u, us', rfl, hv1, hvs⟩ := hv.uncons
        obtain ⟨F1, fz1, g1⟩ : ∃ F1, Fz K r w F m F1 m1 ms1 ∧ VR F1 r v1 u := by
          unfold freezeT at h1
          split at h1
          · cases h1; exact ⟨F, ⟨hs, .refl .., hm⟩, hv1⟩
          · obtain ⟨F1, fz1, g1⟩ := (freeze_sound k).1 hs hm hv1 h1
            exact ⟨F1, fz1, g1.mono (Frz.le_refl _) (nowhere_le _)⟩
        obtain ⟨F2, fz2, g2⟩ := freezeTs_sound fz1.sim fz1.memo (hvs.mono fz1.st.leF (Loc.le_refl _)) h2
        exact ⟨F2, ⟨fz2.sim, fz1.st.trans fz2.st, fz2.memo⟩, (g1.mono fz2.st.leF (Loc.le_refl _)).cons' g2⟩
      · cases h
    · cases h

/-- A block that none of ours is turns. -/
theorem Sim.putU (s : Sim K F r m w) {b : Nat} {o o' : Obj} (hb : ¬ Owned m r b) (ho : w.heap[b]? = some o) (hnc : ∀ C e fr, o ≠ .cells C e fr) : Sim K F r m (w.putObj b o') := by
  refine ⟨s.dom, fun c ch hc => ?_, s.inj, fun b1 C hb1 => ?_⟩
  · obtain ⟨b1, N, o1, h1, h2, h3, h4⟩ := s.obj c ch hc
    refine ⟨b1, N, o1, h1, ?_, h3, h4⟩
    rw [World.putObj_heap_other (fun e => hb (by subst e; exact ⟨c, ch, N, hc, h1⟩))]; exact h2
  · obtain ⟨e, fr, h⟩ := s.frz b1 C hb1
    refine ⟨e, fr, ?_⟩
    rw [World.putObj_heap_other (fun e' => by subst e'; rw [ho] at h; cases h; exact hnc _ _ _ rfl)]; exact h
theorem St.putU {F0 r0 m0 w0} (st : St F0 r0 m0 w0 F r m w) {b : Nat} {o' : Obj} (hb : w0.heap.size ≤ b) : St F0 r0 m0 w0 F r m (w.putObj b o') where
  size := by simpa using st.size
  msize := st.msize
  keep b1 hb1 ho := by rw [World.putObj_heap_other (by omega)]; exact st.keep b1 hb1 ho
  own := st.own
  frz := st.frz
  leF := st.leF
  ler := st.ler
  dirt := st.dirt
  dead := st.dead
  io := st.io

def resOK (P : Program) : List ResultVar → List ResIR → Bool
  | [], [] => true
  | .tmp t :: rs, .tmp t' :: rs' => t == t' && resOK P rs rs'
  | .cell a t :: rs, .cell a' ag sz :: rs' => a == a' && aggT P t == some ag && sizeT P t == some sz && resOK P rs rs'
  | _, _ => false

theorem loadR_sound {t : TypeId} {agg : Bool} {size : Nat} {a v : V} {u : Value} (hs : Sim K F r m w) (ha : aggT P t = some agg) (hsz : sizeT P t = some size)
    (hv : loadV m agg size a = some v) (hu : VR F r a u) : ∃ x, (do loadVar t (← asAddr u) : Sem Value).run P w = .ok x w ∧ VR F r v x := by
  unfold loadV at hv
  cases hu with
  | ptr hr =>
    rename_i c off b N
    simp only at hv
    split at hv
    · rename_i e cs ro hc
      obtain ⟨b', N', o, h1, h2, h3, h4⟩ := hs.obj _ _ hc
      rw [hr] at h1; cases h1
      obtain ⟨C, fr, rfl, hN, hw, _⟩ := h3.win
      obtain ⟨u, hrun, hvr⟩ := run_loadVar_win ha hsz h2 hw hv
      refine ⟨u, ?_, hvr⟩
      simp only [asAddr, Sem.run_bind, Sem.run_pure, Result.andThen_ok]
      rw [← hrun]; simp
    · cases hv
  | fp hF hl hcs =>
    rename_i cs off b o C
    simp only at hv
    obtain ⟨e, fr, h2⟩ := hs.frz _ _ hF
    obtain ⟨u, hrun, hvr⟩ := run_loadVar_win (F := F) (r := nowhere) ha hsz h2 ⟨hl, hcs⟩ hv
    refine ⟨u, ?_, hvr.mono (Frz.le_refl _) (nowhere_le _)⟩
    simp only [asAddr, Sem.run_bind, Sem.run_pure, Result.andThen_ok]
    rw [← hrun]
  | _ => cases hv

def resF (tmps : Array Value) : ResultVar → Sem Value
  | .tmp t => pure (tmps.getD t undef)
  | .cell a t => do loadVar t (← asAddr (tmps.getD a undef))
theorem results_eq (fn : Func) (tmps : Array Value) : results fn tmps = (do let vs ← fn.results.mapM (resF tmps); pure (if h : vs.size = 1 then vs[0] else .tuple vs)) := by
  unfold results
  have : (fun x : ResultVar => resF tmps x) = resF tmps := rfl
  rw [← this]
  congr 2

theorem res_sound {a : List V} {tmps : Array Value} (hs : Sim K F r m w) (ha : VRs F r a tmps) : ∀ {rs : List ResultVar} {rs' : List ResIR} {vs : List V}, resOK P rs rs' = true → resVs a m rs' = some vs →
    ∃ us, (rs.mapM (resF tmps)).run P w = .ok us w ∧ VRs F r vs ⟨us⟩
  | [], [], vs, _, h => by
    cases h
    exact ⟨[], by simp, .nil⟩
  | [], _ :: _, vs, h, _ => by simp [resOK] at h
  | .tmp t :: rs, [], vs, h, _ => by simp [resOK] at h
  | .cell _ _ :: rs, [], vs, h, _ => by simp [resOK] at h
  | .tmp t :: rs, .cell .. :: rs', vs, h, _ => by simp [resOK] at h
  | .cell .. :: rs, .tmp _ :: rs', vs, h, _ => by simp [resOK] at h
  | .tmp t :: rs, .tmp t' :: rs', vs, h, h' => by
    simp only [resOK, Bool.and_eq_true, beq_iff_eq] at h
    obtain ⟨rfl, h⟩ := h
    simp only [resVs] at h'
    split at h'
    · rename_i vs1 h1
      cases h'
      obtain ⟨us, g1, g2⟩ := res_sound hs ha h h1
      exact ⟨tmps.getD t undef :: us, by simp only [List.mapM_cons, resF, Sem.run_bind, Sem.run_pure, Result.andThen_ok, g1], (ha.getD t).cons' g2⟩
    · cases h'
  | .cell p t :: rs, .cell p' ag sz :: rs', vs, h, h' => by
    simp only [resOK, Bool.and_eq_true, beq_iff_eq] at h
    obtain ⟨⟨⟨rfl, hag⟩, hsz⟩, h⟩ := h
    simp only [resVs] at h'
    split at h'
    · rename_i v vs1 hv h1
      cases h'
      obtain ⟨us, g1, g2⟩ := res_sound hs ha h h1
      obtain ⟨u, k1, k2⟩ := loadR_sound (P := P) hs hag hsz hv (ha.getD p)
      exact ⟨u :: us, by simp only [List.mapM_cons, resF, Sem.run_bind, Sem.run_pure, Result.andThen_ok, k1, g1] at k1 ⊢, k2.cons' g2⟩
    · cases h'

/-- The function's form: as the program has it. -/
def FnOK (P : Program) (G : Glob) (f : Nat) (fi : FnIR) : Prop :=
  ∃ fn c, P.funcs[f]? = some fn ∧ (fn.name == "runtime.NumGoroutine") = false ∧ fn.body = some c ∧ fi.ntmps = fn.ntmps ∧ fi.body = cCode P G c ∧ resOK P fn.results.toList fi.res = true

theorem pack_sound {vs : List V} {us : List Value} (h : VRs F r vs ⟨us⟩) : VR F r (packV vs) (if h : us.toArray.size = 1 then us.toArray[0] else .tuple us.toArray) := by
  have hl : vs.length = us.length := by simpa using h.1
  match vs, us, h with
  | [v], [u], h => exact h.2 0 (by simp) (by simp)
  | [], [], h => exact .tup rfl fun i h => by cases h
  | v :: v' :: vs, u :: u' :: us, h =>
    simp only [packV]
    rw [dif_neg (by simp)]
    exact .tup h.1 h.2
  | [v], [], h => simp at hl
  | [v], _ :: _ :: _, h => simp at hl
  | [], _ :: _, h => simp at hl
  | _ :: _ :: _, [], h => simp at hl
  | _ :: _ :: _, [_], h => simp at hl

theorem leave_sound {fn : Func} {tmps : Array Value} {n : Nat} {R : Ending → World → Prop} {F0 : Frz} {r0 : Loc} {m0 : Mem} {w0 : World} :
    ∀ (ms : List Nat) {w : World}, Sim K F r m w → St F0 r0 m0 w0 F r m w → ms.Nodup → (∀ b ∈ ms, w0.heap.size ≤ b ∧ w.heap[b]? = some (.deferred (some [])) ∧ ¬ Owned m r b) →
      (∀ w', Sim K F r m w' → St F0 r0 m0 w0 F r m w' → ∃ v, (results fn tmps).run P w' = .ok v w' ∧ R (.returned v) w') →
      LeavesInM (fe none) n P fn tmps R (ms.map fun b => { target := .collected b, args := #[] }) .returning w
  | [], w, hs, st, _, _, h => by
    simp only [List.map_nil, LeavesInM, LeavesIn]
    exact h w hs st
  | b :: ms, w, hs, st, hnd, hb, h => by
    simp only [List.map_cons, LeavesInM]
    obtain ⟨h1, h2, h3⟩ := hb b (by simp)
    refine ⟨by simp, .inl ⟨b, _, rfl, run_takeDeferred h2, ?_⟩⟩
    rw [List.nodup_cons] at hnd
    refine leave_sound ms (hs.putU h3 h2 (by intro C e fr hh; cases hh)) (st.putU h1) hnd.2 (fun b' hb' => ?_) h
    obtain ⟨g1, g2, g3⟩ := hb b' (by simp [hb'])
    refine ⟨g1, ?_, g3⟩
    rw [World.putObj_heap_other (fun e => hnd.1 (by rw [← e]; exact hb'))]; exact g2

/-- **A compiled function does what the program's does.** -/
theorem fn_sound {call : CallV} {enter : EnterV} (hcall : CallOK (KC P G) P G call) (henter : EnterOK (KC P G) P G enter) (hdraw : DrawOK P G call) {L : Nat} {f : Nat} {fi : FnIR} (hf : FnOK P G f fi)
    {args : List V} {uargs : Array Value} {v : V} {m' : Mem} (hs : Sim (KC P G) F r m w) (hG : GlobOK F G) (ha : VRs F r args uargs) (h : fnRun call enter L fi args m = some (v, m')) :
    (callFunc f uargs).run P w = .ok (.enter f uargs) w ∧ ∀ n, CallsIn (fe none) n P f uargs w (retPost (KC P G) F r m w v m') := by
  obtain ⟨fn, c, hfn, hname, hbody, hnt, hir, hres⟩ := hf
  have hname' : ¬ fn.name = "runtime.NumGoroutine" := by simpa using hname
  refine ⟨by simp [callFunc, hfn, hname', hbody, Result.andThen], fun n => ?_⟩
  refine callsIn_of_wp_marks hfn hbody (fe_fn none f) ?_
  unfold fnRun at h
  have ha0 : VRs F r (args ++ List.replicate (fi.ntmps - args.length) undefV) (uargs ++ Array.replicate (fn.ntmps - uargs.size) undef) := by
    have hl : args.length = uargs.size := ha.1
    rw [hnt, hl]
    exact ha.append ⟨by simp, fun i h1 h2 => by simp only [List.getElem_replicate, Array.getElem_replicate]; exact .tup rfl fun i h => by cases h⟩
  have fin : ∀ {out a1 m1}, codeRun call enter L none fi.body (args ++ List.replicate (fi.ntmps - args.length) undefV) { m with d := [] } = some (out, a1, m1) →
      (∀ id, out ≠ .exit id) →
      (match resVs a1 m1 fi.res with
        | none => none
        | some vs => if fi.frz then
            match freezeTs m.size L [] m1 vs with
            | some (vs, _, m2) => some (giveBack m.size m.d (packV vs) m2)
            | none => some (giveBack m.size m.d (packV vs) m1)
          else some (giveBack m.size m.d (packV vs) m1)) = some (v, m') →
      c.wpIn (fe none) n P (bodyPostM (fe none) n P fn (retPost (KC P G) F r m w v m')) { tmps := uargs ++ Array.replicate (fn.ntmps - uargs.size) undef, defers := [] } w := by
    intro out a1 m1 hrun hex hrest
    rw [hir] at hrun
    refine code_sound hcall henter hdraw (rd := none) (rdb := none) c (hs.d []) ha0 hG trivial hrun fun ca' w' F' r' g1 g2 g3 g4 => ?_
    have key : LeavesInM (fe none) n P fn ca'.tmps (retPost (KC P G) F r m w v m') ca'.defers .returning w' := by
      obtain ⟨ms, e1, e2, e3⟩ := g4
      rw [e1]
      simp only [List.append_nil]
      refine leave_sound ms g1 g2 e2 e3 fun w2 s2 st2 => ?_
      split at hrest
      · cases hrest
      · rename_i vs hvs
        obtain ⟨us, k1, k2⟩ := res_sound (P := P) s2 g3 hres hvs
        have hresults : (results fn ca'.tmps).run P w2 = .ok (if h : us.toArray.size = 1 then us.toArray[0] else .tuple us.toArray) w2 := by
          rw [results_eq]
          have he : fn.results = fn.results.toList.toArray := by simp
          rw [he, List.mapM_toArray]
          simp only [Sem.run_bind, Sem.run_map, k1, Result.andThen_ok, Sem.run_pure]
        refine ⟨_, hresults, ?_⟩
        have plain : ∀ {F2 : Frz} {m2 : Mem} {vs : List V}, Sim (KC P G) F2 r' m2 w2 → St F r { m with d := [] } w F2 r' m2 w2 → VRs F2 r' vs ⟨us⟩ → some (giveBack m.size m.d (packV vs) m2) = some (v, m') →
            retPost (KC P G) F r m w v m' (.returned (if h : us.toArray.size = 1 then us.toArray[0] else .tuple us.toArray)) w2 := by
          intro F2 m2 vs q1 q2 q3 q4
          simp only [Option.some.injEq] at q4
          obtain ⟨r3, p1, p2, p3⟩ := giveBack_sound hs q1 q2 (pack_sound q3) q4
          exact ⟨F2, r3, p1, p2, p3⟩
        split at hrest
        · split at hrest
          · rename_i vs2 ms2 m2 hfr
            obtain ⟨F2, fz, q⟩ := freezeTs_sound s2 (fun c cs h => by simp [Memo.find] at h) k2 hfr
            exact plain fz.sim (st2.trans fz.st) q hrest
          · exact plain s2 st2 k2 hrest
        · exact plain s2 st2 k2 hrest
    cases out with
    | norm => exact key
    | ret => exact key
    | exit id => exact absurd rfl (hex id)
  cases hrun : codeRun call enter L none fi.body (args ++ List.replicate (fi.ntmps - args.length) undefV) { m with d := [] } with
  | none => rw [hrun] at h; cases h
  | some x =>
    obtain ⟨out, a1, m1⟩ := x
    rw [hrun] at h
    cases out with
    | norm => exact fin hrun (fun id e => by cases e) h
    | ret => exact fin hrun (fun id e => by cases e) h
    | exit id => cases h

end
end Go.Proofs.YtjjgiigbhjfkaaaGreatDoor.Am

namespace Go.Proofs.YtjjgiigbhjfkaaaGreatDoor.Am
open Go

section
variable {K : CodeR} {F : Frz} {r : Loc} {m : Mem} {w : World} {P : Program} {G : Glob}

theorem VRs.set {a : List V} {us : Array Value} {v : V} {u : Value} (h : VRs F r a us) (hv : VR F r v u) (t : Nat) : VRs F r (a.set t v) (us.setIfInBounds t u) := by
  have := VRs.put (ca := { tmps := us, defers := [] }) (dst := some t) h hv
  simpa [putV, Act.put] using this

theorem setAll_sound : ∀ {ps : List Nat} {args : List V} {us : List Value} {a : List V} {tmps : Array Value}, VRs F r a tmps → VRs F r args ⟨us⟩ →
    VRs F r (setAll a (ps.zip args)) ((ps.zip us).foldl (fun tmps (t, u) => tmps.setIfInBounds t u) tmps)
  | [], args, us, a, tmps, h, _ => by simpa [setAll] using h
  | p :: ps, [], us, a, tmps, h, h' => by
    have : us = [] := by have := h'.1; simp at this; exact List.eq_nil_of_length_eq_zero this.symm
    subst this
    simpa [setAll] using h
  | p :: ps, v :: args, us, a, tmps, h, h' => by
    obtain ⟨u, us', rfl, hv, hvs⟩ := h'.uncons
    simp only [List.zip_cons_cons, setAll, List.foldl_cons]
    exact setAll_sound (h.set hv p) hvs

def jumpC : Jump → Code
  | .exit id => .exit id
  | .ret => .ret
theorem jumpR_C (j : Option Jump) : JumpR j (j.map jumpC) := by
  cases j with
  | none => trivial
  | some j => cases j <;> simp [JumpR, jumpC]

theorem endRound_sound {c b N : Nat} {j : Option Jump} {v : V} {m' : Mem} (hs : Sim K F r m w) (hr : r c = some (b, N)) (h : endRound c j m = some (v, m')) :
    ∃ u w', (Instr.endRound b (j.map jumpC)).run P w = .ok u w' ∧ Sim K F r m' w' ∧ St F r m w F r m' w' ∧ VR F r v u := by
  unfold endRound at h
  split at h
  · rename_i lc hc
    cases h
    obtain ⟨b', N', o, h1, h2, h3, h4⟩ := hs.obj _ _ hc
    rw [hr] at h1; cases h1
    cases h3 with | loop q1 q2 q3 q4 q5 q6 =>
    rename_i lp
    have hset := hs.set (ch' := .loop { lc with state := if j.isNone then .ready else .done, pending := j }) (o := .loop { lp with state := if (j.map jumpC).isNone then .ready else .done, pending := j.map jumpC }) hc hr
      (.loop (by cases j <;> exact trivial) (jumpR_C j) q3 q4 q5 q6)
    have hst := hs.st_set hc hr (.loop { lc with state := if j.isNone then .ready else .done, pending := j }) (.loop { lp with state := if (j.map jumpC).isNone then .ready else .done, pending := j.map jumpC })
    refine ⟨.bool (j.map jumpC).isNone, _, run_endRound (j.map jumpC) h2, hset, hst, ?_⟩
    have : (j.map jumpC).isNone = j.isNone := by cases j <;> rfl
    rw [this]; exact .bool
  · cases h

theorem round_sound {call : CallV} {enter : EnterV} (hcall : CallOK (KC P G) P G call) (henter : EnterOK (KC P G) P G enter) (hdraw : DrawOK P G call) {L c : Nat} {uf : Value}
    {args : List V} {uargs : Array Value} {v : V} {m' : Mem} (hs : Sim (KC P G) F r m w) (hG : GlobOK F G) (hf : VR F r (.yield c) uf) (ha : VRs F r args uargs)
    (h : roundRun call enter L c args m = some (v, m')) : CallRes (KC P G) P F r m w (do let d ← Deferred.ofValue uf uargs; invoke d.target d.args) v m' := by
  cases hf with | yield hr =>
  rename_i b N
  unfold roundRun at h
  split at h
  · rename_i lc hc
    split at h
    · cases h
    · rename_i hlen
      obtain ⟨b', N', o, h1, h2, h3, h4⟩ := hs.obj _ _ hc
      rw [hr] at h1; cases h1
      cases h3 with | loop q1 q2 q3 q4 q5 q6 =>
      rename_i lp
      have hal : args.length = uargs.size := ha.1
      have hpl : uargs.size = lp.params.size := by
        have : lc.params.length = lp.params.size := by rw [q4]; simp
        simp only [ne_eq, Decidable.not_not] at hlen
        omega
      have hy := run_yield (P := P) (w := w) (args := uargs) h2 hpl
      refine .inr (.inr ⟨b, lp.fn, (lp.params.zip uargs).foldl (fun tmps (x : Nat × Value) => tmps.setIfInBounds x.1 x.2) lp.tmps, lp.assign, lp.body, ?_, fun n => ?_⟩)
      · simp only [Deferred.ofValue, Sem.run_bind, Sem.run_pure, Result.andThen_ok, invoke]
        have : (#[] ++ uargs : Array Value) = uargs := by simp
        rw [this]
        exact hy
      · refine roundIn_of_wpIn (fe_fn none lp.fn) ?_
        have hfold : (lp.params.zip uargs).foldl (fun tmps (x : Nat × Value) => tmps.setIfInBounds x.1 x.2) lp.tmps = (lc.params.zip uargs.toList).foldl (fun tmps (x : Nat × Value) => tmps.setIfInBounds x.1 x.2) lp.tmps := by
          rw [← Array.foldl_toList, Array.toList_zip, q4]
        have htm : VRs F r (setAll lc.tmps (lc.params.zip args)) ((lp.params.zip uargs).foldl (fun tmps (x : Nat × Value) => tmps.setIfInBounds x.1 x.2) lp.tmps) := by
          rw [hfold]
          exact setAll_sound q3 ha
        split at h
        · rename_i a1 m1 hasg
          have hq5 : cCode P G lp.assign = lc.assign := q5
          have hq6 : cCode P G lp.body = lc.body := q6
          rw [← hq5] at hasg
          refine code_sound (rd := some c) (rdb := some b) hcall henter hdraw lp.assign hs htm hG ⟨N, hr⟩ hasg fun ca1 w1 F1 r1 g1 g2 g3 g4 => ?_
          simp only [outX, Exit.then]
          split at h
          · rename_i lc1 hc1
            split at h
            · cases h
            · rename_i hready
              have hready : lc1.state = .ready := by simpa using hready
              obtain ⟨b1, N1, o1, k1, k2, k3, k4⟩ := g1.obj _ _ hc1
              have hr1 : r1 c = some (b, N) := (hs.ler g2) _ _ hr
              rw [hr1] at k1; cases k1
              cases k3 with | loop p1 p2 p3 p4 p5 p6 =>
              rename_i lp1
              have hst1 : lp1.state = .ready := by
                rw [hready] at p1
                cases hh : lp1.state with
                | ready => rfl
                | busy => rw [hh] at p1; exact p1.elim
                | done => rw [hh] at p1; exact p1.elim
                | exhausted => rw [hh] at p1; exact p1.elim
              refine ⟨_, run_beginRound k2 hst1, ?_⟩
              have sB : Sim (KC P G) F1 r1 (m1.set c (.loop { lc1 with state := .busy })) (w1.putObj b (.loop { lp1 with state := .busy })) :=
                g1.set hc1 hr1 (.loop trivial p2 p3 p4 p5 p6)
              have stB : St F1 r1 m1 w1 F1 r1 (m1.set c (.loop { lc1 with state := .busy })) (w1.putObj b (.loop { lp1 with state := .busy })) :=
                g1.st_set hc1 hr1 _ _
              generalize w1.putObj b (.loop { lp1 with state := .busy }) = wB at sB stB
              have fin : ∀ (out : Out) (j : Option Jump) {a2 m2}, outX out = (match j with | none => .normal | some (.exit id) => .exit id | some .ret => .ret) →
                  codeRun call enter L (some c) lc.body a1 (m1.set c (.loop { lc1 with state := .busy })) = some (out, a2, m2) → endRound c j m2 = some (v, m') →
                  lp.body.wpIn ((fe none).inRound b) n P (roundPost P b (retPost (KC P G) F r m w v m')) ca1 wB := by
                intro out j a2 m2 ho hrun hend
                rw [← hq6] at hrun
                refine code_sound (rd := some c) (rdb := some b) hcall henter hdraw lp.body sB g3 (hG.mono g2.leF) ⟨N, hr1⟩ hrun fun ca2 w2 F2 r2 d1 d2 d3 d4 => ?_
                obtain ⟨u, w3, e1, e2, e3, e4⟩ := endRound_sound (P := P) d1 ((sB.ler d2) _ _ hr1) hend
                rw [ho]
                have hR : retPost (KC P G) F r m w v m' (.returned u) w3 := ⟨F2, r2, e2, (g2.trans stB).trans (d2.trans e3), e4⟩
                cases j with
                | none => exact ⟨u, w3, e1, hR⟩
                | some j => cases j with
                  | exit id => exact ⟨u, w3, e1, hR⟩
                  | ret => exact ⟨u, w3, e1, hR⟩
              split at h
              · rename_i a2 m2 hrun
                exact fin .norm none rfl hrun h
              · rename_i id a2 m2 hrun
                exact fin (.exit id) (some (.exit id)) rfl hrun h
              · rename_i a2 m2 hrun
                exact fin .ret (some .ret) rfl hrun h
              · cases h
          · cases h
        · cases h
  · cases h

/-- What is asked of the functions that are answered from outside. -/
def ExtOK (K : CodeR) (P : Program) (G : Glob) (ext : ExtV) : Prop :=
  ∀ {F : Frz} {r : Loc} {m : Mem} {w : World} {f : Nat} {e : List V → Mem → Option (V × Mem)} {args : List V} {uargs : Array Value} {v : V} {m' : Mem}, ext f = some e → GlobOK F G → Sim K F r m w →
    VRs F r args uargs → e args m = some (v, m') → CallRes K P F r m w (callFunc f uargs) v m'

theorem callOf_sound {ext : ExtV} {enter : EnterV} {round : Nat → List V → Mem → Option (V × Mem)} (hext : ExtOK K P G ext) (henter : EnterOK K P G enter)
    (hround : ∀ {F : Frz} {r : Loc} {m : Mem} {w : World} {c : Nat} {uf : Value} {args : List V} {uargs : Array Value} {v : V} {m' : Mem}, GlobOK F G → Sim K F r m w → VR F r (.yield c) uf → VRs F r args uargs →
      round c args m = some (v, m') → CallRes K P F r m w (do let d ← Deferred.ofValue uf uargs; invoke d.target d.args) v m') : CallOK K P G (callOf ext enter round) := by
  intro F r m w fv uf args uargs v m' hG hs hf ha h
  unfold callOf at h
  split at h
  · rename_i f cap
    cases hf with | fn hcl hcv =>
    rename_i ucap
    have hargs : VRs F r (args ++ cap) (uargs ++ ucap) := ha.append ⟨hcl, hcv⟩
    have he : (do let d ← Deferred.ofValue (.func (.func f) #[] ucap) uargs; invoke d.target d.args : Sem Next).run P w = (callFunc f (uargs ++ ucap)).run P w := by
      simp only [Deferred.ofValue, Sem.run_bind, Sem.run_pure, Result.andThen_ok, invoke]
      have : (#[] ++ uargs : Array Value) = uargs := by simp
      rw [this]
    have key : CallRes K P F r m w (callFunc f (uargs ++ ucap)) v m' := by
      split at h
      · rename_i e hee
        exact hext hee hG hs hargs h
      · obtain ⟨h1, h2⟩ := henter hG hs hargs h
        exact .inr (.inl ⟨f, _, h1, h2⟩)
    unfold CallRes at key ⊢
    rw [he]
    exact key
  · exact hround hG hs hf ha h
  · cases h

/-- What is asked of the functions that are told apart. -/
def SpOK (P : Program) (G : Glob) (sp : SpV) : Prop :=
  ∀ {call : CallV}, CallOK (KC P G) P G call → ∀ {F : Frz} {r : Loc} {m : Mem} {w : World} {f : Nat} {g : CallV → List V → Mem → Option (V × Mem)} {args : List V} {uargs : Array Value} {v : V} {m' : Mem},
    sp f = some g → GlobOK F G → Sim (KC P G) F r m w → VRs F r args uargs → g call args m = some (v, m') →
      (callFunc f uargs).run P w = .ok (.enter f uargs) w ∧ ∀ n, CallsIn (fe none) n P f uargs w (retPost (KC P G) F r m w v m')

/-- **The machine answers as the program does.** -/
theorem machine_sound {tab : Nat → Option FnIR} {ext : ExtV} {sp : SpV} {L : Nat} (hext : ExtOK (KC P G) P G ext) (hsp : SpOK P G sp) (htab : ∀ f fi, tab f = some fi → FnOK P G f fi)
    (hdraw : ∀ call, CallOK (KC P G) P G call → DrawOK P G call) : ∀ d, CallOK (KC P G) P G (machine tab ext sp L d).1 ∧ EnterOK (KC P G) P G (machine tab ext sp L d).2
  | 0 => ⟨(by intro F r m w fv uf args uargs v m' _ _ _ _ h; cases h), (by intro F r m w f args uargs v m' _ _ _ h; cases h)⟩
  | d + 1 => by
    obtain ⟨ih1, ih2⟩ := machine_sound (L := L) hext hsp htab hdraw d
    have he : EnterOK (KC P G) P G (machine tab ext sp L (d + 1)).2 := by
      intro F r m w f args uargs v m' hG hs ha h
      simp only [machine, enterOf] at h
      split at h
      · rename_i fi hfi
        exact fn_sound ih1 ih2 (hdraw _ ih1) (htab f fi hfi) hs hG ha h
      · split at h
        · rename_i g hg
          exact hsp ih1 hg hG hs ha h
        · cases h
    refine ⟨?_, he⟩
    simp only [machine]
    refine callOf_sound hext he ?_
    intro F r m w c uf args uargs v m' hG hs hf ha h
    exact round_sound ih1 ih2 (hdraw _ ih1) hs hG hf ha h

end
end Go.Proofs.YtjjgiigbhjfkaaaGreatDoor.Am

namespace Go.Proofs.YtjjgiigbhjfkaaaGreatDoor.Am
open Go

section
variable {K : CodeR} {F : Frz} {r : Loc} {m : Mem} {w : World} {P : Program} {G : Glob}

/-- 'Sim' for a memory that is told by what it holds. -/
structure SimG (K : CodeR) (F : Frz) (r : Loc) (g : Nat → Option Chunk) (sz : Nat) (w : World) : Prop where
  dom : ∀ c x, r c = some x → c < sz
  obj : ∀ c ch, g c = some ch → ∃ b N o, r c = some (b, N) ∧ w.heap[b]? = some o ∧ ObjR K F r N ch o ∧ F b = none
  inj : ∀ c c' ch ch' b N N', g c = some ch → g c' = some ch' → r c = some (b, N) → r c' = some (b, N') → c = c'
  frz : ∀ b C, F b = some C → ∃ e fr, w.heap[b]? = some (.cells C e fr)

theorem Sim.toG (s : Sim K F r m w) : SimG K F r m.get m.size w := ⟨s.dom, s.obj, s.inj, s.frz⟩
theorem SimG.weaken {g : Nat → Option Chunk} (s : SimG K F r g m.size w) (h : ∀ c ch, m.get c = some ch → g c = some ch) : Sim K F r m w :=
  ⟨s.dom, fun c ch hc => s.obj c ch (h c ch hc), fun c c' ch ch' b N N' h1 h2 => s.inj c c' ch ch' b N N' (h _ _ h1) (h _ _ h2), s.frz⟩

def OwnedG (g : Nat → Option Chunk) (r : Loc) (b : Nat) : Prop := ∃ c ch N, g c = some ch ∧ r c = some (b, N)
/-- The frame, since the region's start. -/
structure StF (F0 : Frz) (r0 : Loc) (m0 : Mem) (w0 : World) (F : Frz) (r : Loc) (g : Nat → Option Chunk) (w : World) : Prop where
  size : w0.heap.size ≤ w.heap.size
  keep : ∀ b, b < w0.heap.size → ¬ Owned m0 r0 b → w.heap[b]? = w0.heap[b]?
  own : ∀ b, b < w0.heap.size → OwnedG g r b → Owned m0 r0 b
  frz : ∀ b, b < w0.heap.size → F0 b = none → F b ≠ none → Owned m0 r0 b
  leF : F0.le F
  ler : ∀ c, c < m0.size → r c = r0 c
  io : w.os = w0.os ∧ w.output = w0.output

/-- What is left out of the memory that an operation works on stays as it is. -/
def besideG (m1 m1' : Mem) (g : Nat → Option Chunk) : Nat → Option Chunk := fun c =>
  match m1'.get c with
  | some ch => some ch
  | none => if m1.get c = none then g c else none

theorem frame {g : Nat → Option Chunk} {m1 m1' : Mem} {F' : Frz} {r' : Loc} {w' : World} (s : SimG K F r g m1.size w) (h1 : ∀ c ch, m1.get c = some ch → g c = some ch)
    (hg : ∀ c ch, g c = some ch → c < m1.size) (s1 : Sim K F' r' m1' w') (st : St F r m1 w F' r' m1' w') : SimG K F' r' (besideG m1 m1' g) m1'.size w' := by
  -- a block beside
  have side : ∀ c ch, g c = some ch → m1.get c = none → ∃ b N o, r c = some (b, N) ∧ r' c = some (b, N) ∧ w.heap[b]? = some o ∧ w'.heap[b]? = some o ∧ ObjR K F r N ch o ∧ F' b = none ∧ ¬ Owned m1 r b := by
    intro c ch hc hn
    obtain ⟨b, N, o, k1, k2, k3, k4⟩ := s.obj c ch hc
    have hno : ¬ Owned m1 r b := by
      rintro ⟨c1, ch1, N1, q1, q2⟩
      have := s.inj c c1 ch ch1 b N N1 hc (h1 _ _ q1) k1 q2
      subst this
      rw [hn] at q1; cases q1
    have hb := (Array.getElem?_eq_some_iff.1 k2).1
    refine ⟨b, N, o, k1, by rw [st.ler c (hg c ch hc)]; exact k1, k2, by rw [st.keep b hb hno]; exact k2, k3, ?_, hno⟩
    cases hF : F' b with
    | none => rfl
    | some C => exact absurd (st.frz b hb k4 (by rw [hF]; simp)) hno
  have hler : r.le r' := fun c x hx => by rw [st.ler c (s.dom c x hx)]; exact hx
  have cs : ∀ c ch, besideG m1 m1' g c = some ch → m1'.get c = some ch ∨ (m1'.get c = none ∧ m1.get c = none ∧ g c = some ch) := by
    intro c ch hc
    unfold besideG at hc
    split at hc
    · rename_i ch' hch; cases hc; exact .inl hch
    · rename_i hch
      split at hc
      · rename_i hn; exact .inr ⟨hch, hn, hc⟩
      · cases hc
  refine ⟨s1.dom, fun c ch hc => ?_, fun c c' ch ch' b N N' k1 k2 e1 e2 => ?_, s1.frz⟩
  · rcases cs c ch hc with h | ⟨_, hn, hc⟩
    · exact s1.obj c ch h
    · obtain ⟨b, N, o, q1, q2, q3, q4, q5, q6, _⟩ := side c ch hc hn
      exact ⟨b, N, o, q2, q4, q5.mono st.leF hler, q6⟩
  · rcases cs c ch k1 with h | ⟨_, hn, hc⟩ <;> rcases cs c' ch' k2 with h' | ⟨_, hn', hc'⟩
    · exact s1.inj c c' ch ch' b N N' h h' e1 e2
    · obtain ⟨b2, N2, o2, q1, q2, q3, q4, q5, q6, q7⟩ := side c' ch' hc' hn'
      rw [e2] at q2; cases q2
      have hb := (Array.getElem?_eq_some_iff.1 q3).1
      exact absurd (st.own b hb ⟨c, ch, N, h, e1⟩) q7
    · obtain ⟨b2, N2, o2, q1, q2, q3, q4, q5, q6, q7⟩ := side c ch hc hn
      rw [e1] at q2; cases q2
      have hb := (Array.getElem?_eq_some_iff.1 q3).1
      exact absurd (st.own b hb ⟨c', ch', N', h', e2⟩) q7
    · obtain ⟨b2, N2, o2, q1, q2, q3, q4, q5, q6, q7⟩ := side c ch hc hn
      obtain ⟨b3, N3, o3, p1, p2, p3, p4, p5, p6, p7⟩ := side c' ch' hc' hn'
      rw [e1] at q2; cases q2
      rw [e2] at p2; cases p2
      exact s.inj c c' ch ch' b N N' hc hc' q1 p1

theorem frame_st {F0 : Frz} {r0 : Loc} {m0 : Mem} {w0 : World} {g : Nat → Option Chunk} {m1 m1' : Mem} {F' : Frz} {r' : Loc} {w' : World} (s : SimG K F r g m1.size w)
    (h1 : ∀ c ch, m1.get c = some ch → g c = some ch) (hg : ∀ c ch, g c = some ch → c < m1.size) (hm0 : m0.size ≤ m1.size) (st : St F r m1 w F' r' m1' w') (stf : StF F0 r0 m0 w0 F r g w) :
    StF F0 r0 m0 w0 F' r' (besideG m1 m1' g) w' where
  size := Nat.le_trans stf.size st.size
  keep b hb ho := by
    rw [st.keep b (Nat.lt_of_lt_of_le hb stf.size) (fun o => ho (stf.own b hb (by obtain ⟨c, ch, N, k1, k2⟩ := o; exact ⟨c, ch, N, h1 _ _ k1, k2⟩))), stf.keep b hb ho]
  own b hb o := by
    have hb' := Nat.lt_of_lt_of_le hb stf.size
    obtain ⟨c, ch, N, k1, k2⟩ := o
    unfold besideG at k1
    split at k1
    · rename_i ch' hch
      cases k1
      obtain ⟨c2, ch2, N2, q1, q2⟩ := st.own b hb' ⟨c, ch, N, hch, k2⟩
      exact stf.own b hb ⟨c2, ch2, N2, h1 _ _ q1, q2⟩
    · split at k1
      · exact stf.own b hb ⟨c, ch, N, k1, by rw [← st.ler c (hg c ch k1)]; exact k2⟩
      · cases k1
  frz b hb hn hn' := by
    by_cases hF : F b = none
    · obtain ⟨c2, ch2, N2, q1, q2⟩ := st.frz b (Nat.lt_of_lt_of_le hb stf.size) hF hn'
      exact stf.own b hb ⟨c2, ch2, N2, h1 _ _ q1, q2⟩
    · exact stf.frz b hb hn hF
  leF := Frz.le_trans stf.leF st.leF
  ler c hc := by rw [st.ler c (by omega), stf.ler c hc]
  io := ⟨by rw [st.io.1, stf.io.1], by rw [st.io.2, stf.io.2]⟩

/-- A new block under a kept number. -/
theorem SimG.fill {g : Nat → Option Chunk} {sz c N : Nat} {ch : Chunk} {o : Obj} {w0 : World} (s : SimG K F r g sz w) (hw : w0.heap = w.heap) (hc : c < sz) (hr : r c = none)
    (ho : ObjR K F (r.put c (w.heap.size, N)) N ch o) : SimG K F (r.put c (w.heap.size, N)) (fun c' => if c' = c then some ch else g c') sz (w0.alloc o) := by
  have hp : (w0.alloc o).heap = w.heap.push o := by rw [alloc_heap, hw]
  have hgc : g c = none := by
    cases hg : g c with
    | none => rfl
    | some ch => obtain ⟨b, N, o, h1, _⟩ := s.obj c ch hg; rw [hr] at h1; cases h1
  have hlt : ∀ c' ch b N, g c' = some ch → r c' = some (b, N) → b < w.heap.size := by
    intro c' ch b N hg hrc
    obtain ⟨b', N', o, h1, h2, _⟩ := s.obj c' ch hg
    rw [hrc] at h1; cases h1
    exact (Array.getElem?_eq_some_iff.1 h2).1
  refine ⟨fun c' x hx => ?_, fun c' ch' hg => ?_, fun c1 c2 ch1 ch2 b N1 N2 h1 h2 e1 e2 => ?_, fun b C hb => ?_⟩
  · by_cases h : c' = c
    · subst h; exact hc
    · rw [Loc.put_other h] at hx; exact s.dom _ _ hx
  · try simp only at hg
    split at hg
    · rename_i h; subst h; cases hg
      refine ⟨w.heap.size, N, o, Loc.put_same .., by rw [hp]; simp, ho, ?_⟩
      cases hF : F w.heap.size with
      | none => rfl
      | some C => obtain ⟨e, fr, h⟩ := s.frz _ _ hF; simp at h
    · rename_i h
      obtain ⟨b, N', o', h1, h2, h3, h4⟩ := s.obj c' ch' hg
      have := (Array.getElem?_eq_some_iff.1 h2).1
      exact ⟨b, N', o', by rw [Loc.put_other h]; exact h1, by rw [hp, Array.getElem?_push, if_neg (by omega)]; exact h2, h3.mono (Frz.le_refl _) (Loc.le_put_none hr), h4⟩
  · try simp only at h1 h2
    split at h1 <;> split at h2
    · rename_i a1 a2; rw [a1, a2]
    · rename_i a1 a2
      subst a1
      rw [Loc.put_same] at e1; cases e1
      rw [Loc.put_other a2] at e2
      have := hlt _ _ _ _ h2 e2; omega
    · rename_i a1 a2
      subst a2
      rw [Loc.put_same] at e2; cases e2
      rw [Loc.put_other a1] at e1
      have := hlt _ _ _ _ h1 e1; omega
    · rename_i a1 a2
      rw [Loc.put_other a1] at e1
      rw [Loc.put_other a2] at e2
      exact s.inj _ _ _ _ _ _ _ h1 h2 e1 e2
  · obtain ⟨e, fr, h⟩ := s.frz b C hb
    have := (Array.getElem?_eq_some_iff.1 h).1
    exact ⟨e, fr, by rw [hp, Array.getElem?_push, if_neg (by omega)]; exact h⟩

theorem StF.fill {F0 : Frz} {r0 : Loc} {m0 : Mem} {w0 w1 : World} {g : Nat → Option Chunk} {c N : Nat} {ch : Chunk} {o : Obj} (st : StF F0 r0 m0 w0 F r g w) (hw : w1.heap = w.heap) (hio : w1.os = w.os ∧ w1.output = w.output) (hc : m0.size ≤ c) :
    StF F0 r0 m0 w0 F (r.put c (w.heap.size, N)) (fun c' => if c' = c then some ch else g c') (w1.alloc o) := by
  have hp : (w1.alloc o).heap = w.heap.push o := by rw [alloc_heap, hw]
  have hs := st.size
  refine ⟨by rw [hp]; simp; omega, fun b hb ho => ?_, fun b hb ho => ?_, st.frz, st.leF, fun c' hc' => ?_, ⟨hio.1.trans st.io.1, hio.2.trans st.io.2⟩⟩
  · rw [hp, Array.getElem?_push, if_neg (by omega)]; exact st.keep b hb ho
  · obtain ⟨c', ch', N', k1, k2⟩ := ho
    simp only at k1
    split at k1
    · rename_i h; subst h
      rw [Loc.put_same] at k2; cases k2
      omega
    · rename_i h
      rw [Loc.put_other h] at k2
      exact st.own b hb ⟨c', ch', N', k1, k2⟩
  · rw [Loc.put_other (by omega)]; exact st.ler c' hc'

end
end Go.Proofs.YtjjgiigbhjfkaaaGreatDoor.Am

namespace Go.Proofs.YtjjgiigbhjfkaaaGreatDoor.Am
open Go

theorem map_run {o : Option V} {v : V} {m m' : Mem} (h : o.map (·, m) = some (v, m')) : m' = m ∧ ∀ m2 : Mem, o.map (·, m2) = some (v, m2) := by
  cases o with
  | none => cases h
  | some x => simp only [Option.map_some, Option.some.injEq, Prod.mk.injEq] at h; obtain ⟨rfl, rfl⟩ := h; exact ⟨rfl, fun _ => rfl⟩

/-- Pure operations. -/
theorem P_run {o : IOp} {a : List V} {m m' : Mem} {v : V} (h : o.cls = .P) (hr : o.run a m = some (v, m')) : m' = m ∧ ∀ m2, o.run a m2 = some (v, m2) := by
  cases o <;> simp only [IOp.cls, reduceCtorEq] at h
  case mov => cases hr; exact ⟨rfl, fun _ => rfl⟩
  case pick =>
    simp only [IOp.run] at hr ⊢
    split at hr
    · cases hr; exact ⟨rfl, fun _ => rfl⟩
    · cases hr
  case build =>
    simp only [IOp.run] at hr ⊢
    split at hr
    · rename_i cs hf; cases hr; exact ⟨rfl, fun _ => rfl⟩
    · cases hr
  case nilck x =>
    simp only [IOp.run] at hr ⊢
    generalize x.ev a = y at hr
    cases y <;> simp only [reduceCtorEq, Option.some.injEq, Prod.mk.injEq] at hr ⊢ <;> exact ⟨hr.2.symm, fun _ => ⟨hr.1, trivial⟩⟩
  case bin => exact map_run hr
  case eqd neg d x y =>
    simp only [IOp.run] at hr ⊢
    cases hb : eqV d (x.ev a) (y.ev a) with
    | none => rw [hb] at hr; cases hr
    | some q => rw [hb] at hr; cases hr; exact ⟨rfl, fun _ => rfl⟩
  case un => exact map_run hr
  case conv =>
    simp only [IOp.run] at hr ⊢
    cases hn : asN (X.ev a _) with
    | none => rw [hn] at hr; cases hr
    | some n => rw [hn] at hr; cases hr; exact ⟨rfl, fun _ => rfl⟩
  case same =>
    simp only [IOp.run] at hr ⊢
    split at hr
    · cases hr; exact ⟨rfl, fun _ => rfl⟩
    · cases hr
  case mkif => cases hr; exact ⟨rfl, fun _ => rfl⟩
  case mkfn => cases hr; exact ⟨rfl, fun _ => rfl⟩
  case slice k esz x lo hi mx =>
    cases k <;> simp only [IOp.cls, reduceCtorEq] at h
    · simp only [IOp.run, slOk] at hr ⊢
      exact map_run hr
    · simp only [IOp.run, slOk] at hr ⊢
      exact map_run hr
  case faddr off x =>
    simp only [IOp.run] at hr ⊢
    generalize x.ev a = y at hr
    cases y <;> simp only [reduceCtorEq, Option.some.injEq, Prod.mk.injEq] at hr ⊢ <;> exact ⟨hr.2.symm, fun _ => ⟨hr.1, trivial⟩⟩
  case fld =>
    simp only [IOp.run] at hr ⊢
    split at hr
    · exact map_run hr
    · cases hr
  case iadr => exact map_run hr
  case idxs x i =>
    simp only [IOp.run] at hr ⊢
    split at hr
    · split at hr
      · rename_i s n h1 h2 h0
        cases hs : s[n.toNat]? with
        | none => rw [hs] at hr; cases hr
        | some q => rw [hs] at hr; cases hr; exact ⟨rfl, fun _ => by simp [h0]⟩
      · cases hr
    · cases hr
  case idxa =>
    simp only [IOp.run] at hr ⊢
    split at hr
    · split at hr
      · rename_i h0
        obtain ⟨h1, h2⟩ := map_run hr
        exact ⟨h1, fun m2 => by rw [if_pos h0]; exact h2 m2⟩
      · cases hr
    · cases hr
  case len k x =>
    cases k <;> simp only [IOp.cls, reduceCtorEq] at h
    · simp only [IOp.run, lenV] at hr ⊢
      generalize x.ev a = y at hr
      cases y <;> simp only [Option.map_none, Option.map_some, reduceCtorEq, Option.some.injEq, Prod.mk.injEq] at hr ⊢ <;> exact ⟨hr.2.symm, fun _ => ⟨hr.1, trivial⟩⟩
    · simp only [IOp.run, lenV] at hr ⊢
      generalize x.ev a = y at hr
      cases y <;> simp only [Option.map_none, Option.map_some, reduceCtorEq, Option.some.injEq, Prod.mk.injEq] at hr ⊢ <;> exact ⟨hr.2.symm, fun _ => ⟨hr.1, trivial⟩⟩
    · simp only [IOp.run, lenV] at hr ⊢
      simp only [Option.map_some, Option.some.injEq, Prod.mk.injEq] at hr ⊢
      exact ⟨hr.2.symm, fun _ => ⟨hr.1, trivial⟩⟩
  case mn =>
    simp only [IOp.run] at hr ⊢
    split at hr
    · cases hr; exact ⟨rfl, fun _ => rfl⟩
    · cases hr
  case mx =>
    simp only [IOp.run] at hr ⊢
    split at hr
    · cases hr; exact ⟨rfl, fun _ => rfl⟩
    · cases hr
  case extr =>
    simp only [IOp.run] at hr ⊢
    split at hr
    · exact map_run hr
    · cases hr

/-- A memory holds all that another one does. -/
def Mem.le (m m2 : Mem) : Prop := ∀ c ch, m.get c = some ch → m2.get c = some ch

theorem srcCells_le {m m2 : Mem} {esz : Nat} {x : V} {y} (hle : m.le m2) (h : srcCells m esz x = some y) : srcCells m2 esz x = some y := by
  cases x <;> simp only [srcCells, reduceCtorEq] at h ⊢ <;> try exact h
  split at h
  · rename_i hc
    rw [hle _ _ hc]; exact h
  · cases h

/-- Operations that read alone. -/
theorem R_run {o : IOp} {a : List V} {m m' : Mem} {v : V} (h : o.cls = .R) (hr : o.run a m = some (v, m')) : m' = m ∧ ∀ m2, m.le m2 → o.run a m2 = some (v, m2) := by
  cases o <;> simp only [IOp.cls, reduceCtorEq] at h
  case load ag sz x =>
    simp only [IOp.run] at hr ⊢
    obtain ⟨h1, h2⟩ := map_run hr
    refine ⟨h1, fun m2 hle => ?_⟩
    have : loadV m2 ag sz (x.ev a) = loadV m ag sz (x.ev a) := by
      generalize x.ev a = y at hr
      cases y <;> simp only [loadV] at hr ⊢
      split at hr
      · rename_i hc; rw [hle _ _ hc]
      · cases hr
    rw [this]; exact h2 m2
  case b2s x =>
    simp only [IOp.run] at hr ⊢
    split at hr
    · rename_i n cs hs
      generalize x.ev a = y at hr hs
      have key : m' = m ∧ ∃ s, bytesOf cs = some s ∧ v = .str s ∧ ∀ t, y ≠ .str t := by
        split at hr
        · cases hr
        · rename_i hn
          cases hb : bytesOf cs with
          | none => rw [hb] at hr; cases hr
          | some s => rw [hb] at hr; cases hr; exact ⟨rfl, s, rfl, rfl, fun t ht => hn t ht⟩
      obtain ⟨rfl, s, hb, rfl, hn⟩ := key
      refine ⟨rfl, fun m2 hle => ?_⟩
      rw [srcCells_le hle hs]
      simp only [hb]
      rfl
    · cases hr
  case slice k esz x lo hi mx =>
    cases k <;> simp only [IOp.cls, reduceCtorEq] at h
    rename_i n
    simp only [IOp.run] at hr ⊢
    split at hr
    · cases hr
    · rename_i hok
      obtain ⟨h1, h2⟩ := map_run hr
      refine ⟨h1, fun m2 hle => ?_⟩
      have : slOk m2 (.arr n) esz (x.ev a) = slOk m (.arr n) esz (x.ev a) := by
        generalize x.ev a = y at hok
        cases y <;> simp only [slOk] at hok ⊢
        split at hok
        · rename_i hc; rw [hle _ _ hc]
        · exact absurd rfl hok
      rw [this, if_neg hok]; exact h2 m2
  case look kd zero ok x k =>
    simp only [IOp.run] at hr ⊢
    split at hr
    · rename_i es hes
      have hes2 : ∀ m2, m.le m2 → mapOf m2 (x.ev a) = some es := by
        intro m2 hle
        generalize x.ev a = y at hes
        cases y <;> simp only [mapOf, reduceCtorEq] at hes ⊢ <;> try exact hes
        split at hes
        · rename_i hc; rw [hle _ _ hc]; exact hes
        · cases hes
      split at hr
      · rename_i i v0 hf; cases hr
        exact ⟨rfl, fun m2 hle => by rw [hes2 m2 hle]; simp only [hf]⟩
      · rename_i hf; cases hr
        exact ⟨rfl, fun m2 hle => by rw [hes2 m2 hle]; simp only [hf]⟩
      · cases hr
    · cases hr
  case len k x =>
    cases k <;> simp only [IOp.cls, reduceCtorEq] at h
    simp only [IOp.run] at hr ⊢
    obtain ⟨h1, h2⟩ := map_run hr
    refine ⟨h1, fun m2 hle => ?_⟩
    have : lenV m2 .map (x.ev a) = lenV m .map (x.ev a) := by
      generalize x.ev a = y at hr
      cases y <;> simp only [lenV] at hr ⊢
      split at hr
      · rename_i hc; rw [hle _ _ hc]
      · cases hr
    rw [this]; exact h2 m2

/- Operations see of the temporaries those alone that they name. -/
theorem X.ev_congr {x : X} {a a' : List V} (h : ∀ t ∈ x.ts, a.getD t undefV = a'.getD t undefV) : x.ev a = x.ev a' := by
  cases x with
  | t i => exact h i (by simp [X.ts])
  | c v => rfl
theorem mem_xsTs {t : Nat} {x : X} {xs : List X} (hx : x ∈ xs) (ht : t ∈ x.ts) : t ∈ xsTs xs := by
  induction xs with
  | nil => cases hx
  | cons y ys ih =>
    simp only [xsTs, List.mem_append]
    rcases List.mem_cons.1 hx with rfl | h
    · exact .inl ht
    · exact .inr (ih h)
def XsEq (xs : List X) (a a' : List V) : Prop := ∀ x ∈ xs, x.ev a = x.ev a'
theorem XsEq.of {xs : List X} {a a' : List V} (h : ∀ t ∈ xsTs xs, a.getD t undefV = a'.getD t undefV) : XsEq xs a a' :=
  fun _ hx => X.ev_congr fun t ht => h t (mem_xsTs hx ht)
theorem partsV_congr {a a' : List V} : ∀ {ps : List (Nat × Nat × X)}, XsEq (ps.map fun p => p.2.2) a a' → partsV a ps = partsV a' ps
  | [], _ => rfl
  | (o, s, x) :: ps, h => by
    simp only [partsV]
    rw [h x (by simp), partsV_congr fun y hy => h y (by simp [hy])]
theorem map_ev_congr {a a' : List V} {xs : List X} (h : XsEq xs a a') : xs.map (X.ev a) = xs.map (X.ev a') := List.map_congr_left fun x hx => h x hx
theorem opt_ev_congr {a a' : List V} {x : Option X} (h : ∀ y ∈ x.toList, y.ev a = y.ev a') : x.map (X.ev a) = x.map (X.ev a') := by
  cases x with
  | none => rfl
  | some y => simp only [Option.map_some]; rw [h y (by simp)]

theorem run_congr {o : IOp} {a a' : List V} (h : XsEq o.xs a a') (m : Mem) : o.run a m = o.run a' m := by
  cases o <;> simp only [IOp.xs] at h <;> simp only [IOp.run]
  case build => rw [partsV_congr h]
  case buildS => rw [partsV_congr h]
  case mkfn => rw [map_ev_congr h]
  case slice k esz x lo hi mx =>
    have h1 : x.ev a = x.ev a' := h x (by simp)
    rw [h1, opt_ev_congr (x := lo) (fun y hy => h y (by simp at hy ⊢; simp [hy])), opt_ev_congr (x := hi) (fun y hy => h y (by simp at hy ⊢; simp [hy])), opt_ev_congr (x := mx) (fun y hy => h y (by simp at hy ⊢; simp [hy]))]
  all_goals first
    | (rename_i x y z; rw [h x (by simp), h y (by simp), h z (by simp)]; done)
    | (rename_i x y; rw [h x (by simp), h y (by simp)]; done)
    | (rename_i x; rw [h x (by simp)]; done)
    | skip

end Go.Proofs.YtjjgiigbhjfkaaaGreatDoor.Am

namespace Go.Proofs.YtjjgiigbhjfkaaaGreatDoor.Am
open Go

theorem opRun_congr {call : CallV} {o : IOp} {a a' : List V} (h : XsEq o.xs a a') (m : Mem) : opRun call o a m = opRun call o a' m := by
  by_cases hc : ∃ f xs, o = .call f xs
  · obtain ⟨f, xs, rfl⟩ := hc
    simp only [opRun]
    rw [h f (by simp [IOp.xs]), map_ev_congr (xs := xs) fun x hx => h x (by simp [IOp.xs, hx])]
  · rw [opRun_call (fun f xs h => hc ⟨f, xs, h⟩), opRun_call (fun f xs h => hc ⟨f, xs, h⟩), run_congr h]
theorem runA_congr {o : IOp} {a a' : List V} (h : XsEq o.xs a a') (c : Nat) : o.runA a c = o.runA a' c := by
  cases o <;> simp only [IOp.xs] at h <;> simp only [IOp.runA]
  case buildS => rw [partsV_congr h]
  all_goals first
    | (rename_i x y; rw [h x (by simp), h y (by simp)]; done)
    | (rename_i x; rw [h x (by simp)]; done)
    | skip
theorem wantedV_congr {g : Option (Nat × Bool)} {a a' : List V} (hl : a.length = a'.length) (h : ∀ t b, g = some (t, b) → a.getD t undefV = a'.getD t undefV) : wantedV g a = wantedV g a' := by
  cases g with
  | none => rfl
  | some p =>
    obtain ⟨t, b⟩ := p
    have := h t b rfl
    simp only [wantedV]
    by_cases ht : t < a.length
    · rw [List.getElem?_eq_getElem ht, List.getElem?_eq_getElem (hl ▸ ht)]
      rw [List.getD_eq_getElem?_getD, List.getD_eq_getElem?_getD, List.getElem?_eq_getElem ht, List.getElem?_eq_getElem (hl ▸ ht)] at this
      simp only [Option.getD_some] at this
      rw [this]
    · rw [List.getElem?_eq_none (by omega), List.getElem?_eq_none (by omega)]

theorem Ins.ts_xs {x : Ins} {a a' : List V} (h : ∀ t ∈ x.ts, a.getD t undefV = a'.getD t undefV) : XsEq x.op.xs a a' :=
  .of fun t ht => h t (by simp only [Ins.ts, List.mem_append]; exact .inl ht)
theorem Ins.ts_guard {x : Ins} {a a' : List V} (hl : a.length = a'.length) (h : ∀ t ∈ x.ts, a.getD t undefV = a'.getD t undefV) : wantedV x.guard a = wantedV x.guard a' :=
  wantedV_congr hl fun t b hg => h t (by simp [Ins.ts, hg])

/-- The instruction at a position of the order. -/
def insAt (is : List Ins) (l : List Nat) (k : Nat) : Ins := is.getD (l.getD k 0) default

/-- One step of the canonical run. -/
def StepAt (call : CallV) (is : List Ins) (b : List Nat) (base : Nat) (l : List Nat) (A : Nat → List V) (M : Nat → Mem) (vs : Nat → V) (cs : Nat → Chunk) (k : Nat) : Prop :=
  A (k + 1) = putV (A k) (insAt is l k).dst (vs k) ∧
  (wantedV (insAt is l k).guard (A k) = false → vs k = undefV ∧ M (k + 1) = M k) ∧
  (wantedV (insAt is l k).guard (A k) = true →
    ((insAt is l k).op.cls = .P → (∃ m', (insAt is l k).op.run (A k) (M k) = some (vs k, m')) ∧ M (k + 1) = M k) ∧
    ((insAt is l k).op.cls = .R → (∃ m', (insAt is l k).op.run (A k) (M k) = some (vs k, m')) ∧ M (k + 1) = M k ∧
      ∀ q, k < q → q < l.length → (insAt is l q).op.cls = .E → pre b (l.getD k 0) (l.getD q 0) = false → ∃ m', (insAt is l k).op.run (A k) (M (q + 1)) = some (vs k, m')) ∧
    ((insAt is l k).op.cls = .A → (insAt is l k).op.runA (A k) (base + rank is (l.getD k 0)) = some (vs k, cs k) ∧ M (k + 1) = (M k).set (base + rank is (l.getD k 0)) (cs k)) ∧
    ((insAt is l k).op.cls = .E → opRun call (insAt is l k).op (A k) (M k) = some (vs k, M (k + 1))))

theorem pendOK_mem {b : List Nat} {e : Nat} {m : Mem} : ∀ {ps : Pend}, pendOK b e m ps = true → ∀ i o ar v, (i, o, ar, v) ∈ ps → pre b i e = false → ∃ m', o.run ar m = some (v, m')
  | [], _, _, _, _, _, h, _ => by cases h
  | (i0, o0, a0, v0) :: ps, h, i, o, ar, v, hm, hp => by
    simp only [pendOK, Bool.and_eq_true, Bool.or_eq_true] at h
    rcases List.mem_cons.1 hm with he | hm
    · cases he
      rcases h.1 with h1 | h1
      · rw [hp] at h1; cases h1
      · split at h1
        · rename_i v' m' hr
          rw [V.eq_sound _ _ h1] at hr
          exact ⟨_, hr⟩
        · cases h1
    · exact pendOK_mem h.2 i o ar v hm hp

/-- The canonical run, laid out. -/
theorem trace {call : CallV} {is : List Ins} {b : List Nat} {base : Nat} {a' : List V} {m' : Mem} : ∀ (l : List Nat) {ps : Pend} {a : List V} {m : Mem}, drawRun call is b base l ps a m = some (a', m') →
    ∃ (A : Nat → List V) (M : Nat → Mem) (vs : Nat → V) (cs : Nat → Chunk), A 0 = a ∧ M 0 = m ∧ A l.length = a' ∧ M l.length = m' ∧
      (∀ k, k < l.length → StepAt call is b base l A M vs cs k) ∧
      (∀ i o ar v, (i, o, ar, v) ∈ ps → ∀ q, q < l.length → (insAt is l q).op.cls = .E → pre b i (l.getD q 0) = false → ∃ m'', o.run ar (M (q + 1)) = some (v, m''))
  | [], ps, a, m, h => by
    simp only [drawRun, Option.some.injEq, Prod.mk.injEq] at h
    exact ⟨fun _ => a, fun _ => m, fun _ => undefV, fun _ => .dead, rfl, rfl, h.1, h.2, (fun k hk => by cases hk), (fun _ _ _ _ _ q hq => by cases hq)⟩
  | i :: l, ps, a, m, h => by
    simp only [drawRun] at h
    split at h
    · cases h
    · rename_i x hx
      have hxi : insAt is (i :: l) 0 = x := by simp [insAt, hx]
      -- laying a step ahead of the rest
      have ahead : ∀ (v : V) (ch : Chunk) (m1 : Mem) (ps' : Pend), drawRun call is b base l ps' (putV a x.dst v) m1 = some (a', m') →
          (wantedV x.guard a = false → v = undefV ∧ m1 = m) →
          (wantedV x.guard a = true → (x.op.cls = .P → (∃ m', x.op.run a m = some (v, m')) ∧ m1 = m) ∧ (x.op.cls = .R → (∃ m', x.op.run a m = some (v, m')) ∧ m1 = m ∧ (i, x.op, a, v) ∈ ps') ∧
            (x.op.cls = .A → x.op.runA a (base + rank is i) = some (v, ch) ∧ m1 = m.set (base + rank is i) ch) ∧ (x.op.cls = .E → opRun call x.op a m = some (v, m1))) →
          (∀ p ∈ ps, p ∈ ps') →
          (x.op.cls = .E → ∀ i' o ar v', (i', o, ar, v') ∈ ps → pre b i' i = false → ∃ m'', o.run ar m1 = some (v', m'')) →
          ∃ (A : Nat → List V) (M : Nat → Mem) (vs : Nat → V) (cs : Nat → Chunk), A 0 = a ∧ M 0 = m ∧ A (i :: l).length = a' ∧ M (i :: l).length = m' ∧
            (∀ k, k < (i :: l).length → StepAt call is b base (i :: l) A M vs cs k) ∧
            (∀ i' o ar v, (i', o, ar, v) ∈ ps → ∀ q, q < (i :: l).length → (insAt is (i :: l) q).op.cls = .E → pre b i' ((i :: l).getD q 0) = false → ∃ m'', o.run ar (M (q + 1)) = some (v, m'')) := by
        intro v ch m1 ps' hrun hun hwa hps hE
        obtain ⟨A, M, vs, cs, hA, hM, hA', hM', hst, hpend⟩ := trace l hrun
        refine ⟨fun k => if k = 0 then a else A (k - 1), fun k => if k = 0 then m else M (k - 1), fun k => if k = 0 then v else vs (k - 1), fun k => if k = 0 then ch else cs (k - 1),
          rfl, rfl, by simpa using hA', by simpa using hM', fun k hk => ?_, fun i' o ar v' hm q hq hc hp => ?_⟩
        · cases k with
          | zero =>
            simp only [StepAt, hxi, if_true, Nat.zero_add, Nat.one_ne_zero, if_false, Nat.sub_self, hA, hM]
            refine ⟨trivial, fun hw => hun hw, fun hw => ?_⟩
            obtain ⟨q1, q2, q3, q4⟩ := hwa hw
            refine ⟨q1, fun hc => ⟨(q2 hc).1, (q2 hc).2.1, fun q hq0 hq hcq hp => ?_⟩, q3, q4⟩
            obtain ⟨q, rfl⟩ : ∃ j, q = j + 1 := ⟨q - 1, by omega⟩
            simp only [List.length_cons] at hq
            have := hpend i x.op a v (q2 hc).2.2 q (by omega) hcq hp
            simpa using this
          | succ k =>
            have := hst k (by simpa using hk)
            simp only [StepAt, insAt, List.getD_cons_succ, Nat.add_one_ne_zero, if_false, Nat.add_sub_cancel] at this ⊢
            refine ⟨this.1, this.2.1, fun hw => ?_⟩
            obtain ⟨q1, q2, q3, q4⟩ := this.2.2 hw
            refine ⟨q1, fun hc => ⟨(q2 hc).1, (q2 hc).2.1, fun q hq0 hq hcq hp => ?_⟩, q3, q4⟩
            obtain ⟨q, rfl⟩ : ∃ j, q = j + 1 := ⟨q - 1, by omega⟩
            simp only [List.length_cons] at hq
            exact (q2 hc).2.2 q (by omega) (by omega) hcq hp
        · cases q with
          | zero =>
            simp only [Nat.zero_add, Nat.one_ne_zero, if_false, Nat.sub_self, hM]
            rw [hxi] at hc
            exact hE hc i' o ar v' hm hp
          | succ q =>
            simp only [List.length_cons] at hq
            have := hpend i' o ar v' (hps _ hm) q (by omega) hc hp
            simpa using this
      split at h
      · rename_i hw
        split at h
        · rename_i hc
          split at h
          · rename_i v m1 hr
            exact ahead v .dead m ps h (fun h => by rw [hw] at h; cases h) (fun _ => ⟨fun _ => ⟨⟨m1, hr⟩, rfl⟩, fun h => (by rw [hc] at h; cases h), fun h => (by rw [hc] at h; cases h), fun h => (by rw [hc] at h; cases h)⟩)
              (fun p h => h) (fun h => by rw [hc] at h; cases h)
          · cases h
        · rename_i hc
          split at h
          · rename_i v m1 hr
            exact ahead v .dead m _ h (fun h => by rw [hw] at h; cases h) (fun _ => ⟨fun h => (by rw [hc] at h; cases h), fun _ => ⟨⟨m1, hr⟩, rfl, by simp⟩, fun h => (by rw [hc] at h; cases h), fun h => (by rw [hc] at h; cases h)⟩)
              (fun p h => by simp [h]) (fun h => by rw [hc] at h; cases h)
          · cases h
        · rename_i hc
          split at h
          · rename_i v ch hr
            exact ahead v ch _ ps h (fun h => by rw [hw] at h; cases h) (fun _ => ⟨fun h => (by rw [hc] at h; cases h), fun h => (by rw [hc] at h; cases h), fun _ => ⟨hr, rfl⟩, fun h => (by rw [hc] at h; cases h)⟩)
              (fun p h => h) (fun h => by rw [hc] at h; cases h)
          · cases h
        · rename_i hc
          split at h
          · rename_i v m1 hr
            split at h
            · rename_i hp
              exact ahead v .dead m1 ps h (fun h => by rw [hw] at h; cases h) (fun _ => ⟨fun h => (by rw [hc] at h; cases h), fun h => (by rw [hc] at h; cases h), fun h => (by rw [hc] at h; cases h), fun _ => hr⟩)
                (fun p h => h) (fun _ i' o ar v' hm hpre => pendOK_mem hp i' o ar v' hm hpre)
            · cases h
          · cases h
      · rename_i hw
        split at h
        · cases h
        · rename_i hp
          exact ahead undefV .dead m ps h (fun _ => ⟨rfl, rfl⟩) (fun h => absurd h hw) (fun p h => h) (fun hc i' o ar v' hm hpre =>
            pendOK_mem (by
              cases hpk : pendOK b i m ps with
              | true => rfl
              | false => exact absurd ⟨hc, hpk⟩ hp) i' o ar v' hm hpre)

end Go.Proofs.YtjjgiigbhjfkaaaGreatDoor.Am

namespace Go.Proofs.YtjjgiigbhjfkaaaGreatDoor.Am
open Go

section
variable {ops : Array Oper}

theorem mask_bits (acc : Array Nat) (j : Nat) : ∀ (es : List Edge) (s : Nat),
    (es.foldl (fun s e => if Region.binds .any e then s ||| 2 ^ e.on ||| acc.getD e.on 0 else s) s).testBit j = true ↔
      s.testBit j = true ∨ ∃ e ∈ es, Region.binds .any e = true ∧ (j = e.on ∨ (acc.getD e.on 0).testBit j = true)
  | [], s => by simp
  | e :: es, s => by
    rw [List.foldl_cons, mask_bits acc j es]
    by_cases hb : Region.binds .any e = true
    · simp only [hb, if_true, Nat.testBit_or, Nat.testBit_two_pow, Bool.or_eq_true, decide_eq_true_eq, List.mem_cons, exists_eq_or_imp, true_and]
      constructor
      · rintro ((h | h) | h)
        · rcases h with h | h
          · exact .inl h
          · exact .inr (.inl (.inl h.symm))
        · exact .inr (.inl (.inr h))
        · exact .inr (.inr h)
      · rintro (h | (h | h) | h)
        · exact .inl (.inl (.inl h))
        · exact .inl (.inl (.inr h.symm))
        · exact .inl (.inr h)
        · exact .inr h
    · simp only [hb, List.mem_cons, exists_eq_or_imp, false_and, false_or, Bool.false_eq_true, if_false]

def maskOf (acc : Array Nat) (o : Oper) : Nat := o.after.foldl (fun s e => if Region.binds .any e then s ||| 2 ^ e.on ||| acc.getD e.on 0 else s) 0

theorem maskOf_bits {acc : Array Nat} {o : Oper} {j : Nat} : (maskOf acc o).testBit j = true ↔ ∃ e ∈ o.after.toList, Region.binds .any e = true ∧ (j = e.on ∨ (acc.getD e.on 0).testBit j = true) := by
  unfold maskOf
  rw [← Array.foldl_toList, mask_bits]
  simp

theorem before_go : ∀ (os : List Oper) (acc : Array Nat),
    (os.foldl (fun acc o => acc.push (maskOf acc o)) acc).size = acc.size + os.length ∧
    (∀ i, i < acc.size → (os.foldl (fun acc o => acc.push (maskOf acc o)) acc).getD i 0 = acc.getD i 0) ∧
    (∀ k (hk : k < os.length), ∃ acc' : Array Nat, acc'.size = acc.size + k ∧ (os.foldl (fun acc o => acc.push (maskOf acc o)) acc).getD (acc.size + k) 0 = maskOf acc' os[k] ∧
      ∀ i, i < acc'.size → acc'.getD i 0 = (os.foldl (fun acc o => acc.push (maskOf acc o)) acc).getD i 0)
  | [], acc => ⟨rfl, fun _ _ => rfl, fun k hk => by cases hk⟩
  | o :: os, acc => by
    obtain ⟨h1, h2, h3⟩ := before_go os (acc.push (maskOf acc o))
    simp only [List.foldl_cons]
    have hp : ∀ i, i < acc.size → (acc.push (maskOf acc o)).getD i 0 = acc.getD i 0 := by
      intro i hi
      simp only [Array.getD_eq_getD_getElem?]
      rw [Array.getElem?_push, if_neg (by omega)]
    refine ⟨by rw [h1]; simp; omega, fun i hi => by rw [h2 i (by simp; omega), hp i hi], fun k hk => ?_⟩
    cases k with
    | zero =>
      refine ⟨acc, rfl, ?_, fun i hi => by rw [h2 i (by simp; omega), hp i hi]⟩
      rw [Nat.add_zero, h2 acc.size (by simp)]
      simp [Array.getD_eq_getD_getElem?]
    | succ k =>
      obtain ⟨acc', g1, g2, g3⟩ := h3 k (by simpa using hk)
      refine ⟨acc', by rw [g1]; simp; omega, ?_, g3⟩
      have : acc.size + (k + 1) = (acc.push (maskOf acc o)).size + k := by simp; omega
      rw [this]
      simpa using g2

theorem before_eq (ops : Array Oper) : Region.before ops = ops.toList.foldl (fun acc o => acc.push (maskOf acc o)) #[] := by
  unfold Region.before
  rw [← Array.foldl_toList]
  rfl

theorem pre_spec {i j : Nat} (h : pre (Region.before ops).toList j i = true) :
    ∃ o, ops[i]? = some o ∧ ∃ e ∈ o.after.toList, Region.binds .any e = true ∧ (j = e.on ∨ pre (Region.before ops).toList j e.on = true) := by
  have hg : ∀ k, (Region.before ops).toList.getD k 0 = (Region.before ops).getD k 0 := by
    intro k; simp [List.getD_eq_getElem?_getD, Array.getD_eq_getD_getElem?]
  unfold pre at h ⊢
  simp only [hg] at h ⊢
  rw [before_eq] at h ⊢
  obtain ⟨h1, h2, h3⟩ := before_go ops.toList #[]
  by_cases hi : i < ops.size
  · obtain ⟨acc', g1, g2, g3⟩ := h3 i (by simpa using hi)
    simp only [Array.size_empty, Nat.zero_add] at g1 g2
    rw [g2, maskOf_bits] at h
    obtain ⟨e, he, hb, hj⟩ := h
    refine ⟨ops[i], Array.getElem?_eq_getElem hi, e, by simpa using he, hb, ?_⟩
    rcases hj with hj | hj
    · exact .inl hj
    · right
      by_cases hlt : e.on < acc'.size
      · rw [← g3 _ hlt]; exact hj
      · have : acc'.getD e.on 0 = 0 := by simp [Array.getD_eq_getD_getElem?, Array.getElem?_eq_none (Nat.le_of_not_lt hlt)]
        rw [this] at hj; simp at hj
  · have : (ops.toList.foldl (fun acc o => acc.push (maskOf acc o)) #[]).getD i 0 = 0 := by
      rw [Array.getD_eq_getD_getElem?, Array.getElem?_eq_none (by rw [h1]; simp; omega)]; rfl
    rw [this] at h; simp at h

theorem pre_edge {i : Nat} {o : Oper} {e : Edge} (ho : ops[i]? = some o) (he : e ∈ o.after.toList) (hb : Region.binds .any e = true) : pre (Region.before ops).toList e.on i = true := by
  have hg : ∀ k, (Region.before ops).toList.getD k 0 = (Region.before ops).getD k 0 := by
    intro k; simp [List.getD_eq_getElem?_getD, Array.getD_eq_getD_getElem?]
  unfold pre
  simp only [hg]
  rw [before_eq]
  obtain ⟨h1, h2, h3⟩ := before_go ops.toList #[]
  obtain ⟨hi, rfl⟩ := Array.getElem?_eq_some_iff.1 ho
  obtain ⟨acc', g1, g2, g3⟩ := h3 i (by simpa using hi)
  simp only [Array.size_empty, Nat.zero_add] at g2
  rw [g2, maskOf_bits]
  exact ⟨e, by simpa using he, hb, .inl rfl⟩

end

/-- What a good order tells. -/
structure Good (is : List Ins) (b : List Nat) (l : List Nat) : Prop where
  len : l.length = is.length
  all : ∀ i, i < is.length → ∃ k, k < l.length ∧ l.getD k 0 = i
  lt : ∀ k, k < l.length → l.getD k 0 < is.length
  mask : ∀ i j, pre b j i = true → j < is.length
  irr : ∀ i, i < is.length → pre b i i = false
  pair : ∀ j k, j < k → k < l.length → pairOK is b (l.getD j 0) (l.getD k 0) = true
  tmp : ∀ i j d, i < is.length → j < is.length → (is.getD i default).dst = some d → i ≠ j → (some d = (is.getD j default).dst ∨ d ∈ (is.getD j default).ts) → pre b i j = true ∨ pre b j i = true

theorem pairsOK_get {is : List Ins} {b : List Nat} : ∀ {l : List Nat}, pairsOK is b l = true → ∀ j k, j < k → k < l.length → pairOK is b (l.getD j 0) (l.getD k 0) = true
  | [], _, j, k, _, hk => by cases hk
  | i :: l, h, j, k, hjk, hk => by
    simp only [pairsOK, Bool.and_eq_true, List.all_eq_true] at h
    obtain ⟨k, rfl⟩ : ∃ q, k = q + 1 := ⟨k - 1, by omega⟩
    simp only [List.length_cons] at hk
    cases j with
    | zero =>
      simp only [List.getD_cons_zero, List.getD_cons_succ]
      have hkl : k < l.length := by omega
      rw [List.getD_eq_getElem?_getD, List.getElem?_eq_getElem hkl]
      exact h.1 _ (List.getElem_mem hkl)
    | succ j =>
      simp only [List.getD_cons_succ]
      exact pairsOK_get h.2 j k (by omega) (by omega)

theorem good {is : List Ins} {b l : List Nat} (h : drawOK is b l = true) : Good is b l := by
  simp only [drawOK, Bool.and_eq_true, beq_iff_eq, List.all_eq_true, List.mem_range, decide_eq_true_eq, Bool.not_eq_true'] at h
  obtain ⟨⟨⟨⟨⟨⟨h1, h2⟩, h3⟩, h4⟩, h7⟩, h5⟩, h6⟩ := h
  refine ⟨h1, fun i hi => ?_, fun k hk => ?_, fun i j hp => ?_, h7, pairsOK_get h5, fun i j d hi hj hd hne ho => ?_⟩
  · have := h2 i hi
    rw [List.contains_iff_mem] at this
    obtain ⟨k, hk, he⟩ := List.getElem_of_mem this
    exact ⟨k, hk, by rw [List.getD_eq_getElem?_getD, List.getElem?_eq_getElem hk]; exact he⟩
  · rw [List.getD_eq_getElem?_getD, List.getElem?_eq_getElem hk]
    exact h3 _ (List.getElem_mem hk)
  · unfold pre at hp
    by_cases hi : i < b.length
    · rw [List.getD_eq_getElem?_getD, List.getElem?_eq_getElem hi] at hp
      have hlt := h4 _ (List.getElem_mem hi)
      rcases Nat.lt_or_ge j is.length with h | h
      · exact h
      · have : b[i] < 2 ^ j := Nat.lt_of_lt_of_le hlt (Nat.pow_le_pow_right (by omega) h)
        rw [Option.getD_some, Nat.testBit_lt_two_pow this] at hp; cases hp
    · rw [List.getD_eq_getElem?_getD, List.getElem?_eq_none (by omega)] at hp
      simp at hp
  · simp only [tmpOK, List.all_eq_true, List.mem_range] at h6
    have hgi : is[i]? = some (is.getD i default) := by rw [List.getElem?_eq_getElem hi, List.getD_eq_getElem?_getD, List.getElem?_eq_getElem hi]; rfl
    have hgj : is[j]? = some (is.getD j default) := by rw [List.getElem?_eq_getElem hj, List.getD_eq_getElem?_getD, List.getElem?_eq_getElem hj]; rfl
    have := h6 i hi
    simp only [hgi, hd, List.all_eq_true, List.mem_range] at this
    have := this j hj
    simp only [hgj, Bool.or_eq_true, beq_iff_eq, Bool.and_eq_true, bne_iff_ne, ne_eq, Bool.not_eq_true', List.contains_eq_mem, decide_eq_false_iff_not] at this
    rcases this with ((h | h) | h) | h
    · exact absurd h hne
    · exact .inl h
    · exact .inr h
    · rcases ho with ho | ho
      · exact absurd ho.symm h.1
      · exact absurd ho h.2

end Go.Proofs.YtjjgiigbhjfkaaaGreatDoor.Am

namespace Go.Proofs.YtjjgiigbhjfkaaaGreatDoor.Am
open Go

section
variable {is : List Ins} {b l : List Nat} {base : Nat}

def holeAt (is : List Ins) (l : List Nat) (base k : Nat) : Nat := base + rank is (l.getD k 0)

theorem countP_lt {is : List Ins} : ∀ {i j : Nat}, i < j → j ≤ is.length → (is.getD i default).op.cls = .A → rank is i < rank is j := by
  intro i j hij hj hc
  unfold rank
  have hi : i < is.length := by omega
  have h1 : is.take (i + 1) = is.take i ++ [is[i]] := (List.take_append_getElem hi).symm ▸ rfl
  have h2 : (is.take (i + 1)).countP (fun x => x.op.cls == .A) = (is.take i).countP (fun x => x.op.cls == .A) + 1 := by
    rw [h1, List.countP_append]
    have : is[i].op.cls = .A := by
      rw [List.getD_eq_getElem?_getD, List.getElem?_eq_getElem hi] at hc; exact hc
    simp [List.countP_cons, this]
  have h3 : (is.take (i + 1)).countP (fun x => x.op.cls == .A) ≤ (is.take j).countP (fun x => x.op.cls == .A) := by
    have : (is.take j) = is.take (i + 1) ++ (is.drop (i + 1)).take (j - (i + 1)) := by
      rw [← List.take_add]; congr 1; omega
    rw [this, List.countP_append]; omega
  omega

theorem Good.op_inj (hg : Good is b l) {j k : Nat} (hj : j < l.length) (hk : k < l.length) (h : l.getD j 0 = l.getD k 0) : j = k := by
  rcases Nat.lt_trichotomy j k with hh | hh | hh
  · have := hg.pair j k hh hk; simp only [pairOK, h, bne_self_eq_false, Bool.false_and] at this; cases this
  · exact hh
  · have := hg.pair k j hh hj; simp only [pairOK, h, bne_self_eq_false, Bool.false_and] at this; cases this

theorem Good.hole_inj (hg : Good is b l) {j k : Nat} (hj : j < l.length) (hk : k < l.length) (cj : (insAt is l j).op.cls = .A) (ck : (insAt is l k).op.cls = .A)
    (h : holeAt is l base j = holeAt is l base k) : j = k := by
  apply hg.op_inj hj hk
  have h' : rank is (l.getD j 0) = rank is (l.getD k 0) := by simp only [holeAt] at h; omega
  have lj := hg.lt j hj
  have lk := hg.lt k hk
  rcases Nat.lt_trichotomy (l.getD j 0) (l.getD k 0) with hh | hh | hh
  · have := countP_lt hh (by omega) cj; omega
  · exact hh
  · have := countP_lt hh (by omega) ck; omega

theorem Good.hole_lt (hg : Good is b l) {k : Nat} (hk : k < l.length) (ck : (insAt is l k).op.cls = .A) : holeAt is l base k < base + is.countP (fun x => x.op.cls == .A) := by
  have lk := hg.lt k hk
  have h1 := countP_lt lk (Nat.le_refl _) ck
  have : rank is is.length = is.countP (fun x => x.op.cls == .A) := by simp [rank]
  unfold holeAt; omega

/- The temporaries behind those that are done. -/
def envt (is : List Ins) (l : List Nat) (vs : Nat → V) (a0 : List V) (on : Nat → Bool) (t : Nat) : Nat → V
  | 0 => a0.getD t undefV
  | k + 1 => if on k = true ∧ (insAt is l k).dst = some t then vs k else envt is l vs a0 on t k
def envL (is : List Ins) (l : List Nat) (vs : Nat → V) (a0 : List V) (on : Nat → Bool) : List V := (List.range a0.length).map fun t => envt is l vs a0 on t l.length

theorem envL_getD {vs : Nat → V} {a0 : List V} {on : Nat → Bool} {t : Nat} : (envL is l vs a0 on).getD t undefV = if t < a0.length then envt is l vs a0 on t l.length else undefV := by
  unfold envL
  rw [List.getD_eq_getElem?_getD, List.getElem?_map]
  by_cases h : t < a0.length
  · rw [List.getElem?_range h, if_pos h]; rfl
  · rw [List.getElem?_eq_none (by simp; omega), if_neg h]; rfl
theorem envL_len {vs : Nat → V} {a0 : List V} {on : Nat → Bool} : (envL is l vs a0 on).length = a0.length := by simp [envL]

theorem putV_len {a : List V} {d : Option Nat} {v : V} : (putV a d v).length = a.length := by cases d <;> simp [putV]
theorem putV_getD {a : List V} {d : Option Nat} {v : V} {t : Nat} (ht : t < a.length) : (putV a d v).getD t undefV = if d = some t then v else a.getD t undefV := by
  cases d with
  | none => simp [putV]
  | some d =>
    simp only [putV, List.getD_eq_getElem?_getD, List.getElem?_set, Option.some.injEq]
    by_cases h : d = t
    · subst h; simp [ht]
    · simp [h]

theorem A_env {call : CallV} {A : Nat → List V} {M : Nat → Mem} {vs : Nat → V} {cs : Nat → Chunk} {a0 : List V} (hA : A 0 = a0) (hst : ∀ k, k < l.length → StepAt call is b base l A M vs cs k) :
    ∀ k, k ≤ l.length → (A k).length = a0.length ∧ ∀ t, t < a0.length → (A k).getD t undefV = envt is l vs a0 (fun _ => true) t k
  | 0, _ => by rw [hA]; exact ⟨rfl, fun t _ => rfl⟩
  | k + 1, hk => by
    obtain ⟨h1, h2⟩ := A_env hA hst k (by omega)
    have hs := (hst k (by omega)).1
    rw [hs]
    refine ⟨by rw [putV_len, h1], fun t ht => ?_⟩
    rw [putV_getD (by omega)]
    simp only [envt, true_and]
    split
    · rfl
    · exact h2 t ht

/-- Who else writes what an operation names: if ahead, it is done; if behind, it is not. -/
theorem Good.writers (hg : Good is b l) {on : Nat → Bool} {q : Nat} (hq : q < l.length) (hoff : on q = false)
    (hclosed : ∀ j k, j < l.length → k < l.length → pre b (l.getD j 0) (l.getD k 0) = true → on k = true → on j = true)
    (hpre : ∀ j, j < l.length → pre b (l.getD j 0) (l.getD q 0) = true → on j = true) {j t : Nat} (hj : j < l.length) (hjq : j ≠ q) (hw : (insAt is l j).dst = some t)
    (ht : some t = (insAt is l q).dst ∨ t ∈ (insAt is l q).ts) : (j < q → on j = true) ∧ (q < j → on j = false) := by
  have h := hg.tmp (l.getD j 0) (l.getD q 0) t (hg.lt j hj) (hg.lt q hq) hw (fun e => hjq (hg.op_inj hj hq e)) ht
  refine ⟨fun hlt => ?_, fun hlt => ?_⟩
  · have hp := hg.pair j q hlt hq
    simp only [pairOK, Bool.and_eq_true, Bool.not_eq_true'] at hp
    rcases h with h | h
    · exact hpre j hj h
    · rw [hp.1.2] at h; cases h
  · have hp := hg.pair q j hlt hj
    simp only [pairOK, Bool.and_eq_true, Bool.not_eq_true'] at hp
    rcases h with h | h
    · rw [hp.1.2] at h; cases h
    · cases ho : on j with
      | false => rfl
      | true => rw [hclosed q j hq hj h ho] at hoff; cases hoff

theorem env_read (hg : Good is b l) {vs : Nat → V} {a0 : List V} {on : Nat → Bool} {q : Nat} (hq : q < l.length) (hoff : on q = false)
    (hclosed : ∀ j k, j < l.length → k < l.length → pre b (l.getD j 0) (l.getD k 0) = true → on k = true → on j = true)
    (hpre : ∀ j, j < l.length → pre b (l.getD j 0) (l.getD q 0) = true → on j = true) {t : Nat} (ht : t ∈ (insAt is l q).ts) :
    envt is l vs a0 on t l.length = envt is l vs a0 (fun _ => true) t q := by
  have up : ∀ k, q ≤ k → k ≤ l.length → envt is l vs a0 on t k = envt is l vs a0 on t q := by
    intro k
    induction k with
    | zero => intro h _; have : q = 0 := by omega
              subst this; rfl
    | succ k ih =>
      intro h1 h2
      by_cases hk : q = k + 1
      · rw [hk]
      · simp only [envt]
        rw [if_neg, ih (by omega) (by omega)]
        rintro ⟨ho, hd⟩
        by_cases hkq : k = q
        · subst hkq; rw [ho] at hoff; cases hoff
        · have := (hg.writers hq hoff hclosed hpre (by omega) hkq hd (.inr ht)).2 (by omega)
          rw [ho] at this; cases this
  have down : ∀ k, k ≤ q → envt is l vs a0 on t k = envt is l vs a0 (fun _ => true) t k := by
    intro k
    induction k with
    | zero => intro _; rfl
    | succ k ih =>
      intro h
      simp only [envt, true_and]
      by_cases hd : (insAt is l k).dst = some t
      · have := (hg.writers hq hoff hclosed hpre (by omega) (by omega) hd (.inr ht)).1 (by omega)
        rw [if_pos ⟨this, hd⟩, if_pos hd]
      · rw [if_neg (fun h => hd h.2), if_neg hd]
        exact ih (by omega)
  rw [up l.length (by omega) (Nat.le_refl _), down q (Nat.le_refl _)]

def onPut (on : Nat → Bool) (q : Nat) : Nat → Bool := fun j => decide (j = q) || on j

theorem env_write (hg : Good is b l) {vs : Nat → V} {a0 : List V} {on : Nat → Bool} {q : Nat} (hq : q < l.length) (hoff : on q = false)
    (hclosed : ∀ j k, j < l.length → k < l.length → pre b (l.getD j 0) (l.getD k 0) = true → on k = true → on j = true)
    (hpre : ∀ j, j < l.length → pre b (l.getD j 0) (l.getD q 0) = true → on j = true) :
    envL is l vs a0 (onPut on q) = putV (envL is l vs a0 on) (insAt is l q).dst (vs q) := by
  apply List.ext_getElem?
  intro t
  have key : ∀ t, t < a0.length → envt is l vs a0 (onPut on q) t l.length = if (insAt is l q).dst = some t then vs q else envt is l vs a0 on t l.length := by
    intro t _
    by_cases hd : (insAt is l q).dst = some t
    · rw [if_pos hd]
      have up : ∀ k, q + 1 ≤ k → k ≤ l.length → envt is l vs a0 (onPut on q) t k = vs q := by
        intro k
        induction k with
        | zero => intro h; omega
        | succ k ih =>
          intro h1 h2
          simp only [envt]
          by_cases hk : k = q
          · subst hk
            rw [if_pos ⟨by simp [onPut], hd⟩]
          · rw [if_neg, ih (by omega) (by omega)]
            rintro ⟨ho, hdk⟩
            have := (hg.writers hq hoff hclosed hpre (by omega) hk hdk (.inl hd.symm)).2 (by omega)
            simp only [onPut, hk, decide_false, Bool.false_or] at ho
            rw [ho] at this; cases this
      exact up l.length (by omega) (Nat.le_refl _)
    · rw [if_neg hd]
      have : ∀ k, envt is l vs a0 (onPut on q) t k = envt is l vs a0 on t k := by
        intro k
        induction k with
        | zero => rfl
        | succ k ih =>
          simp only [envt, ih]
          by_cases hk : k = q
          · subst hk
            rw [if_neg (fun h => hd h.2), if_neg (fun h => hd h.2)]
          · simp only [onPut, hk, decide_false, Bool.false_or]
      exact this _
  by_cases ht : t < a0.length
  · have h1 := envL_getD (is := is) (l := l) (vs := vs) (a0 := a0) (on := onPut on q) (t := t)
    have h2 := putV_getD (a := envL is l vs a0 on) (d := (insAt is l q).dst) (v := vs q) (t := t) (by rw [envL_len]; exact ht)
    rw [envL_getD, if_pos ht] at h2
    rw [if_pos ht, key t ht, ← h2] at h1
    have l1 : t < (envL is l vs a0 (onPut on q)).length := by rw [envL_len]; exact ht
    have l2 : t < (putV (envL is l vs a0 on) (insAt is l q).dst (vs q)).length := by rw [putV_len, envL_len]; exact ht
    rw [List.getD_eq_getElem?_getD, List.getD_eq_getElem?_getD, List.getElem?_eq_getElem l1, List.getElem?_eq_getElem l2] at h1
    rw [List.getElem?_eq_getElem l1, List.getElem?_eq_getElem l2]
    simpa using h1
  · rw [List.getElem?_eq_none (by rw [envL_len]; omega), List.getElem?_eq_none (by rw [putV_len, envL_len]; omega)]

end
end Go.Proofs.YtjjgiigbhjfkaaaGreatDoor.Am

namespace Go.Proofs.YtjjgiigbhjfkaaaGreatDoor.Am
open Go

theorem Mem.get_set_any {m : Mem} {c c' : Nat} {x ch : Chunk} (hc : c < m.size) (h : (m.set c x).get c' = some ch) : (c' = c ∧ ch = x) ∨ (c' ≠ c ∧ m.get c' = some ch) := by
  by_cases hcc : c' = c
  · subst hcc
    left
    unfold Mem.get Mem.set at h
    simp only at h
    rw [if_pos hc] at h
    by_cases hi : m.size - 1 - c' < m.l.length
    · rw [List.getElem?_set_self hi] at h
      cases x <;> simp_all
    · rw [List.getElem?_eq_none (by simp; omega)] at h; cases h
  · exact .inr ⟨hcc, by rw [← Mem.get_set_other hcc hc]; exact h⟩

section
variable {is : List Ins} {b l : List Nat} {base : Nat} {call : CallV} {A : Nat → List V} {M : Nat → Mem} {vs : Nat → V} {cs : Nat → Chunk}

/-- Between two effects the memory turns by new blocks alone. -/
theorem segment (hg : Good is b l) (hst : ∀ k, k < l.length → StepAt call is b base l A M vs cs k) {p : Nat} (hroom : base + is.countP (fun x => x.op.cls == .A) ≤ (M p).size) :
    ∀ q, p ≤ q → q ≤ l.length → (∀ j, p ≤ j → j < q → (insAt is l j).op.cls ≠ .E) →
      (M q).size = (M p).size ∧
      (∀ c ch, (M q).get c = some ch → (M p).get c = some ch ∨ ∃ j, p ≤ j ∧ j < q ∧ (insAt is l j).op.cls = .A ∧ wantedV (insAt is l j).guard (A j) = true ∧ c = holeAt is l base j ∧ ch = cs j) ∧
      (∀ c, c < base → (M q).get c = (M p).get c ∧ (c ∉ (M q).d → c ∉ (M p).d)) := by
  intro q
  induction q with
  | zero =>
    intro h _ _
    have : p = 0 := by omega
    subst this
    exact ⟨rfl, fun c ch h => .inl h, fun c _ => ⟨rfl, fun h => h⟩⟩
  | succ q ih =>
    intro hpq hq hne
    by_cases hp : p = q + 1
    · subst hp
      exact ⟨rfl, fun c ch h => .inl h, fun c _ => ⟨rfl, fun h => h⟩⟩
    · obtain ⟨h1, h2, h3⟩ := ih (by omega) (by omega) (fun j hj hj' => hne j hj (by omega))
      obtain ⟨_, hun, hwa⟩ := hst q (by omega)
      have same : M (q + 1) = M q → _ := fun he : M (q + 1) = M q => show (M (q + 1)).size = (M p).size ∧
          (∀ c ch, (M (q + 1)).get c = some ch → (M p).get c = some ch ∨ ∃ j, p ≤ j ∧ j < q + 1 ∧ (insAt is l j).op.cls = .A ∧ wantedV (insAt is l j).guard (A j) = true ∧ c = holeAt is l base j ∧ ch = cs j) ∧
          (∀ c, c < base → (M (q + 1)).get c = (M p).get c ∧ (c ∉ (M (q + 1)).d → c ∉ (M p).d)) by
        rw [he]
        refine ⟨h1, fun c ch h => ?_, h3⟩
        rcases h2 c ch h with h | ⟨j, a1, a2, a3⟩
        · exact .inl h
        · exact .inr ⟨j, a1, by omega, a3⟩
      cases hw : wantedV (insAt is l q).guard (A q) with
      | false => exact same (hun hw).2
      | true =>
        obtain ⟨hP, hR, hA, hE⟩ := hwa hw
        cases hc : (insAt is l q).op.cls with
        | P => exact same (hP hc).2
        | R => exact same (hR hc).2.1
        | E => exact absurd hc (hne q (by omega) (by omega))
        | A =>
          have he := (hA hc).2
          have hlt : holeAt is l base q < (M q).size := by
            have := hg.hole_lt (base := base) (show q < l.length by omega) hc
            omega
          rw [he]
          refine ⟨by simpa using h1, fun c ch h => ?_, fun c hcb => ?_⟩
          · rcases Mem.get_set_any hlt h with ⟨k1, k2⟩ | ⟨k1, k2⟩
            · exact .inr ⟨q, by omega, by omega, hc, hw, k1, k2⟩
            · rcases h2 c ch k2 with h | ⟨j, a1, a2, a3⟩
              · exact .inl h
              · exact .inr ⟨j, a1, by omega, a3⟩
          · have hcne : c ≠ base + rank is (l.getD q 0) := by omega
            obtain ⟨g1, g2⟩ := h3 c hcb
            refine ⟨by rw [Mem.get_set_other hcne hlt, g1], fun hd => g2 (fun hm => hd ?_)⟩
            show c ∈ (base + rank is (l.getD q 0)) :: (M q).d
            exact List.mem_cons_of_mem _ hm

end

section
variable {is : List Ins} {b l : List Nat} {call : CallV} {A : Nat → List V} {M : Nat → Mem} {vs : Nat → V} {cs : Nat → Chunk}
variable {P : Program} {G : Glob} {F0 : Frz} {r0 : Loc} {m0 : Mem} {w0 : World} {a0 : List V} {ds0 : List Deferred}

/-- What holds when the operations at the positions 'on' are done. -/
structure Inv (P : Program) (G : Glob) (is : List Ins) (b l : List Nat) (A : Nat → List V) (M : Nat → Mem) (vs : Nat → V) (cs : Nat → Chunk) (F0 : Frz) (r0 : Loc) (m0 : Mem) (w0 : World) (a0 : List V)
    (ds0 : List Deferred) (on : Nat → Bool) (F : Frz) (r : Loc) (p : Nat) (g : Nat → Option Chunk) (ca : Act) (w : World) : Prop where
  ple : p ≤ l.length
  es : ∀ q, q < l.length → (insAt is l q).op.cls = .E → (on q = true ↔ q < p)
  plast : p = 0 ∨ ((insAt is l (p - 1)).op.cls = .E ∧ on (p - 1) = true)
  closed : ∀ j k, j < l.length → k < l.length → pre b (l.getD j 0) (l.getD k 0) = true → on k = true → on j = true
  sim : SimG (KC P G) F r g (M p).size w
  sub : ∀ c ch, (M p).get c = some ch → g c = some ch
  side : ∀ j, p ≤ j → j < l.length → on j = true → (insAt is l j).op.cls = .A → wantedV (insAt is l j).guard (A j) = true → g (holeAt is l m0.size j) = some (cs j)
  free : ∀ j, j < l.length → on j = false → (insAt is l j).op.cls = .A → r (holeAt is l m0.size j) = none
  notyet : ∀ j, p ≤ j → j < l.length → (insAt is l j).op.cls = .A → (M p).get (holeAt is l m0.size j) = none
  room : m0.size + is.countP (fun x => x.op.cls == .A) ≤ (M p).size
  env : VRs F r (envL is l vs a0 on) ca.tmps
  stf : StF F0 r0 m0 w0 F r g w
  dirt : ∀ c, c < m0.size → c ∉ (M p).d → c ∉ m0.d ∧ (M p).get c = m0.get c
  dead : ∀ c, c < m0.size → m0.get c = none → (M p).get c = none
  defs : ca.defers = ds0

theorem Inv.gsz {on F r p g ca w} (h : Inv P G is b l A M vs cs F0 r0 m0 w0 a0 ds0 on F r p g ca w) : ∀ c ch, g c = some ch → c < (M p).size := fun c ch hc => by
  obtain ⟨b, N, o, h1, _⟩ := h.sim.obj c ch hc
  exact h.sim.dom _ _ h1

/-- The A's ahead of the last effect are done. -/
theorem Inv.early {on F r p g ca w} (hg : Good is b l) (h : Inv P G is b l A M vs cs F0 r0 m0 w0 a0 ds0 on F r p g ca w) {j : Nat} (hj : j < l.length) (hoff : on j = false)
    (hc : (insAt is l j).op.cls = .A) : p ≤ j := by
  rcases Nat.lt_or_ge j p with hlt | hge
  · rcases h.plast with h0 | ⟨hE, hon⟩
    · omega
    · by_cases hjp : j = p - 1
      · rw [hjp] at hoff; rw [hoff] at hon; cases hon
      · have hpl : p - 1 < l.length := by have := h.ple; omega
        have hp := hg.pair j (p - 1) (by omega) hpl
        have c1 : clsAt is (l.getD j 0) = .A := by
          have := hg.lt j hj
          simp only [clsAt, List.getElem?_eq_getElem this]
          simp only [insAt, List.getD_eq_getElem?_getD (l := is), List.getElem?_eq_getElem this, Option.getD_some] at hc
          exact hc
        have c2 : clsAt is (l.getD (p - 1) 0) = .E := by
          have := hg.lt (p - 1) hpl
          simp only [clsAt, List.getElem?_eq_getElem this]
          simp only [insAt, List.getD_eq_getElem?_getD (l := is), List.getElem?_eq_getElem this, Option.getD_some] at hE
          exact hE
        simp only [pairOK, c1, c2, Bool.and_eq_true] at hp
        rw [h.closed j (p - 1) hj hpl hp.2 hon] at hoff
        cases hoff
  · exact hge

theorem cls_at (hg : Good is b l) {j : Nat} (hj : j < l.length) : clsAt is (l.getD j 0) = (insAt is l j).op.cls := by
  have := hg.lt j hj
  simp only [clsAt, List.getElem?_eq_getElem this]
  simp only [insAt, List.getD_eq_getElem?_getD (l := is), List.getElem?_eq_getElem this, Option.getD_some]

end
end Go.Proofs.YtjjgiigbhjfkaaaGreatDoor.Am

namespace Go.Proofs.YtjjgiigbhjfkaaaGreatDoor.Am
open Go

theorem besideG_self {m1 : Mem} {g : Nat → Option Chunk} (h : ∀ c ch, m1.get c = some ch → g c = some ch) : besideG m1 m1 g = g := by
  funext c
  unfold besideG
  split
  · rename_i ch hc; exact (h c ch hc).symm
  · rename_i hc; rw [if_pos hc]

section
variable {is : List Ins} {b l : List Nat} {call : CallV} {A : Nat → List V} {M : Nat → Mem} {vs : Nat → V} {cs : Nat → Chunk}
variable {P : Program} {G : Glob} {F0 : Frz} {r0 : Loc} {m0 : Mem} {w0 : World} {a0 : List V} {ds0 : List Deferred} {ops : Array Oper}

theorem put_defers (ca : Act) (d : Option Nat) (u : Value) : (ca.put d u).defers = ca.defers := by cases d <;> rfl

theorem onPut_ne {on : Nat → Bool} {q j : Nat} (h : j ≠ q) : onPut on q j = on j := by simp [onPut, h]
theorem onPut_self {on : Nat → Bool} {q : Nat} : onPut on q q = true := by simp [onPut]

theorem step_sound (hcall : CallOK (KC P G) P G call) (hg : Good is b l) (hlen : l.length = ops.size)
    (hops : ∀ k, k < l.length → ∃ o, ops[l.getD k 0]? = some o ∧ cIns P G ops o = some (insAt is l k)) (hA : A 0 = a0) (hst : ∀ k, k < l.length → StepAt call is b m0.size l A M vs cs k)
    {on : Nat → Bool} {F : Frz} {r : Loc} {p : Nat} {g : Nat → Option Chunk} {ca : Act} {w : World} (hG : GlobOK F0 G) (hi : Inv P G is b l A M vs cs F0 r0 m0 w0 a0 ds0 on F r p g ca w)
    {q : Nat} (hq : q < l.length) (hoff : on q = false) (hpre : ∀ j, j < l.length → pre b (l.getD j 0) (l.getD q 0) = true → on j = true) {rdb : Option Nat} {n : Nat}
    {Q : Exit → Act → World → Prop} {Kt : Act → World → Prop} (hK : ∀ F' r' p' g' ca' w', Inv P G is b l A M vs cs F0 r0 m0 w0 a0 ds0 (onPut on q) F' r' p' g' ca' w' → Kt ca' w') :
    wpOpIn (fe rdb) n P ops Q (l.getD q 0) Kt ca w := by
  obtain ⟨o, ho, hci⟩ := hops q hq
  obtain ⟨hop, hdst⟩ := cIns_op hci
  have hGF := hG.mono hi.stf.leF
  have hread : ∀ t ∈ (insAt is l q).ts, (envL is l vs a0 on).getD t undefV = (A q).getD t undefV := by
    intro t ht
    obtain ⟨h1, h2⟩ := A_env hA hst q (by omega)
    rw [envL_getD]
    by_cases hlt : t < a0.length
    · rw [if_pos hlt, h2 t hlt, env_read hg hq hoff hi.closed hpre ht]
    · rw [if_neg hlt, List.getD_eq_getElem?_getD, List.getElem?_eq_none (by omega)]; rfl
  have hAl := (A_env hA hst q (by omega)).1
  have hxs := Ins.ts_xs hread
  have hwd : wantedV (insAt is l q).guard (envL is l vs a0 on) = wantedV (insAt is l q).guard (A q) := Ins.ts_guard (by rw [envL_len, hAl]) hread
  obtain ⟨_, hun, hwa⟩ := hst q hq
  have hwrite := env_write hg (vs := vs) (a0 := a0) hq hoff hi.closed hpre
  -- what is alike in all cases
  have closed' : ∀ j k, j < l.length → k < l.length → pre b (l.getD j 0) (l.getD k 0) = true → onPut on q k = true → onPut on q j = true := by
    intro j k hj hk hp hk'
    simp only [onPut, Bool.or_eq_true, decide_eq_true_eq] at hk' ⊢
    rcases hk' with rfl | hk'
    · exact .inr (hpre j hj hp)
    · exact .inr (hi.closed j k hj hk hp hk')
  have notE : (insAt is l q).op.cls ≠ .E → (∀ q', q' < l.length → (insAt is l q').op.cls = .E → (onPut on q q' = true ↔ q' < p)) ∧ (p = 0 ∨ ((insAt is l (p - 1)).op.cls = .E ∧ onPut on q (p - 1) = true)) := by
    intro hne
    refine ⟨fun q' hq' hE => ?_, ?_⟩
    · rw [onPut_ne (fun e => hne (by rw [← e]; exact hE))]; exact hi.es q' hq' hE
    · rcases hi.plast with h | ⟨h1, h2⟩
      · exact .inl h
      · exact .inr ⟨h1, by simp [onPut, h2]⟩
  have isE : (insAt is l q).op.cls = .E → p ≤ q ∧ (∀ q', q' < l.length → (insAt is l q').op.cls = .E → (onPut on q q' = true ↔ q' < q + 1)) ∧ (∀ j, p ≤ j → j < q → (insAt is l j).op.cls ≠ .E) := by
    intro hE
    have hpq : p ≤ q := by
      rcases Nat.lt_or_ge q p with h | h
      · rw [(hi.es q hq hE).2 h] at hoff; cases hoff
      · exact h
    have ahead : ∀ j, j < q → (insAt is l j).op.cls = .E → on j = true := by
      intro j hj hc
      have hp := hg.pair j q hj hq
      simp only [pairOK, cls_at hg (show j < l.length by omega), cls_at hg hq, hc, hE, Bool.and_eq_true] at hp
      exact hpre j (by omega) hp.2
    refine ⟨hpq, fun q' hq' hE' => ?_, fun j hj hj' hc => ?_⟩
    · rcases Nat.lt_trichotomy q' q with h | h | h
      · rw [onPut_ne (by omega), ahead q' h hE']; simp; omega
      · subst h; rw [onPut_self]; simp
      · rw [onPut_ne (by omega)]
        have hp := hg.pair q q' h hq'
        simp only [pairOK, cls_at hg hq', cls_at hg hq, hE', hE, Bool.and_eq_true] at hp
        constructor
        · intro ho'
          rw [hi.closed q q' hq hq' hp.2 ho'] at hoff; cases hoff
        · intro h'; omega
    · have := (hi.es j (by omega) hc).1 (ahead j hj' hc)
      omega
  have segq : (insAt is l q).op.cls = .E ∨ (insAt is l q).op.cls = .R → p ≤ q → (∀ j, p ≤ j → j < q → (insAt is l j).op.cls ≠ .E) →
      (M q).size = (M p).size ∧ (∀ c ch, (M q).get c = some ch → g c = some ch) ∧ (∀ c, c < m0.size → (M q).get c = (M p).get c ∧ (c ∉ (M q).d → c ∉ (M p).d)) ∧
      (∀ j, q ≤ j → j < l.length → (insAt is l j).op.cls = .A → (M q).get (holeAt is l m0.size j) = none) := by
    intro hcl hpq hne
    obtain ⟨s1, s2, s3⟩ := segment hg hst hi.room q hpq (by omega) hne
    refine ⟨s1, fun c ch h => ?_, s3, fun j hj hjl hc => ?_⟩
    · rcases s2 c ch h with h | ⟨j, a1, a2, a3, a4, rfl, rfl⟩
      · exact hi.sub c ch h
      · refine hi.side j a1 (by omega) ?_ a3 a4
        have hp := hg.pair j q a2 hq
        rcases hcl with hcl | hcl <;> simp only [pairOK, cls_at hg (show j < l.length by omega), cls_at hg hq, a3, hcl, Bool.and_eq_true] at hp <;> exact hpre j (by omega) hp.2
    · cases hget : (M q).get (holeAt is l m0.size j) with
      | none => rfl
      | some ch =>
        rcases s2 _ ch hget with h | ⟨j', a1, a2, a3, a4, a5, a6⟩
        · rw [hi.notyet j (by omega) hjl hc] at h; cases h
        · have := hg.hole_inj hjl (show j' < l.length by omega) hc a3 a5
          omega
  -- reads, and pure operations
  have still : ∀ m1 : Mem, m1.size = (M p).size → (∀ c ch, m1.get c = some ch → g c = some ch) → (insAt is l q).op.cls ≠ .E → (insAt is l q).op.cls ≠ .A → wantedV (insAt is l q).guard (A q) = true →
      (insAt is l q).op.run (A q) m1 = some (vs q, m1) → o.wpIn (fe rdb) n P ca w Kt Q := by
    intro m1 hsz hsub hne hna hw hrun
    have hs1 : Sim (KC P G) F r m1 w := SimG.weaken (by rw [hsz]; exact hi.sim) hsub
    have hnc : ∀ f xs, (insAt is l q).op ≠ .call f xs := by
      intro f xs he; rw [he] at hne; exact hne rfl
    have hrun' : opRun call (insAt is l q).op (envL is l vs a0 on) m1 = some (vs q, m1) := by
      rw [opRun_congr hxs, opRun_call hnc]; exact hrun
    have hrun'' := hrun'
    rw [hop] at hrun''
    refine oper_sound hcall hs1 hi.env hGF (cOpB_run hrun'') hrun'' fun u w' F' r' g1 g2 g3 => hK F' r' p g _ w' ?_
    have hgs : ∀ c ch, g c = some ch → c < m1.size := by rw [hsz]; exact hi.gsz
    have hfr := frame (by rw [hsz]; exact hi.sim) hsub hgs g1 g2
    rw [besideG_self hsub, hsz] at hfr
    have hfs := frame_st (by rw [hsz]; exact hi.sim) hsub hgs (by rw [hsz]; have := hi.room; omega) g2 hi.stf
    rw [besideG_self hsub] at hfs
    obtain ⟨e1, e2⟩ := notE hne
    refine ⟨hi.ple, e1, e2, closed', hfr, hi.sub, fun j h1 h2 h3 h4 h5 => hi.side j h1 h2 (by
        rwa [onPut_ne (fun e => hna (by rw [← e]; exact h4))] at h3) h4 h5, fun j h1 h2 h3 => ?_, hi.notyet, hi.room, ?_, hfs, hi.dirt, hi.dead, by rw [put_defers]; exact hi.defs⟩
    · have hlt := hg.hole_lt (base := m0.size) h1 h3
      rw [g2.ler _ (by rw [hsz]; have := hi.room; omega)]
      refine hi.free j h1 ?_ h3
      cases ho' : on j with
      | false => rfl
      | true => simp [onPut, ho'] at h2
    · rw [hwrite, hdst]
      exact (hi.env.mono g2.leF (hs1.ler g2)).put g3
  unfold wpOpIn
  simp only [ho]
  rw [wanted_sound hci hi.env, hwd]
  split
  · rename_i hw
    obtain ⟨hP, hR, hAA, hE⟩ := hwa hw
    cases hc : (insAt is l q).op.cls with
    | P =>
      obtain ⟨⟨m', hrun⟩, _⟩ := hP hc
      have := (P_run hc hrun).2 ⟨(M p).size, [], []⟩
      exact still ⟨(M p).size, [], []⟩ rfl (fun c ch h => by unfold Mem.get at h; split at h <;> simp at h) (by rw [hc]; simp) (by rw [hc]; simp) hw this
    | R =>
      obtain ⟨⟨m', hrun⟩, _, hre⟩ := hR hc
      rcases Nat.lt_or_ge q p with hlt | hge
      · -- behind an effect that came first
        rcases hi.plast with h0 | ⟨hE', hon⟩
        · omega
        · have hpl : p - 1 < l.length := by have := hi.ple; omega
          have hnp : pre b (l.getD q 0) (l.getD (p - 1) 0) = false := by
            cases hpp : pre b (l.getD q 0) (l.getD (p - 1) 0) with
            | false => rfl
            | true => rw [hi.closed q (p - 1) hq hpl hpp hon] at hoff; cases hoff
          have hqp : q ≠ p - 1 := by rintro e; rw [e, hE'] at hc; cases hc
          obtain ⟨m2, hrun2⟩ := hre (p - 1) (by omega) hpl hE' hnp
          have hpe : p - 1 + 1 = p := by omega
          rw [hpe] at hrun2
          have hm2 := (R_run hc hrun2).1
          subst hm2
          exact still (M p) rfl hi.sub (by rw [hc]; simp) (by rw [hc]; simp) hw hrun2
      · have hne : ∀ j, p ≤ j → j < q → (insAt is l j).op.cls ≠ .E := by
          intro j hj hj' hcj
          have hp := hg.pair j q hj' hq
          simp only [pairOK, cls_at hg (show j < l.length by omega), cls_at hg hq, hcj, hc, Bool.and_eq_true] at hp
          have := (hi.es j (by omega) hcj).1 (hpre j (by omega) hp.2)
          omega
        obtain ⟨s1, s2, _, _⟩ := segq (.inr hc) hge hne
        have hm' := (R_run hc hrun).1
        subst hm'
        exact still (M q) s1 s2 (by rw [hc]; simp) (by rw [hc]; simp) hw hrun
    | A =>
      obtain ⟨hrun, _⟩ := hAA hc
      rw [← runA_congr hxs] at hrun
      have hce : cOp P G o = some (insAt is l q).op := by
        rw [hop]
        unfold cOpB
        cases hco : cOp P G o with
        | none => rw [hop] at hc; unfold cOpB at hc; rw [hco] at hc; cases hc
        | some io => rfl
      obtain ⟨mk, hmk, _, u, ob, N, w1, hw1, hex, hobj⟩ := runA_sound (K := KC P G) (w := w) hi.env hGF hce hrun
      have hpq : p ≤ q := hi.early hg hq hoff hc
      have hfree := hi.free q hq hoff hc
      obtain ⟨hob, hv⟩ := hobj _ hfree
      have hhl := hg.hole_lt (base := m0.size) hq hc
      refine ⟨fun f _ => fe_fn rdb f, ?_⟩
      rw [Oper.semAt_eq _ _ _ (cOp_defer hce), hex, Oper.uponIn_value]
      refine hK F (r.put (holeAt is l m0.size q) (w.heap.size, N)) p (fun c' => if c' = holeAt is l m0.size q then some (cs q) else g c') _ _ ?_
      obtain ⟨e1, e2⟩ := notE (by rw [hc]; simp)
      have hle : r.le (r.put (holeAt is l m0.size q) (w.heap.size, N)) := Loc.le_put_none hfree
      refine ⟨hi.ple, e1, e2, closed', hi.sim.fill hw1.1 (by have := hi.room; omega) hfree hob, fun c ch h => ?_, fun j h1 h2 h3 h4 h5 => ?_, fun j h1 h2 h3 => ?_, hi.notyet, hi.room, ?_,
        hi.stf.fill hw1.1 hw1.2 (by unfold holeAt; omega), hi.dirt, hi.dead, by rw [put_defers]; exact hi.defs⟩
      · have hne : c ≠ holeAt is l m0.size q := by
          rintro rfl
          rw [hi.notyet q hpq hq hc] at h; cases h
        rw [if_neg hne]; exact hi.sub c ch h
      · by_cases hj : j = q
        · subst hj; rw [if_pos rfl]
        · rw [if_neg (fun e => hj (hg.hole_inj h2 hq h4 hc e))]
          rw [onPut_ne hj] at h3
          exact hi.side j h1 h2 h3 h4 h5
      · have hj : j ≠ q := by rintro rfl; rw [onPut_self] at h2; cases h2
        rw [onPut_ne hj] at h2
        rw [Loc.put_other (fun e => hj (hg.hole_inj h1 hq h3 hc e))]
        exact hi.free j h1 h2 h3
      · rw [hwrite, hdst]
        refine (hi.env.mono (Frz.le_refl _) hle).put ?_
        rw [← hmk]; exact hv
    | E =>
      obtain ⟨hpq, hes, hnoE⟩ := isE hc
      obtain ⟨s1, s2, s3, s4⟩ := segq (.inl hc) hpq hnoE
      have hs1 : Sim (KC P G) F r (M q) w := SimG.weaken (by rw [s1]; exact hi.sim) s2
      have hrun' : opRun call (insAt is l q).op (envL is l vs a0 on) (M q) = some (vs q, M (q + 1)) := by
        rw [opRun_congr hxs]; exact hE hc
      rw [hop] at hrun'
      refine oper_sound hcall hs1 hi.env hGF (cOpB_run hrun') hrun' fun u w' F' r' g1 g2 g3 => hK F' r' (q + 1) (besideG (M q) (M (q + 1)) g) _ w' ?_
      have hgs : ∀ c ch, g c = some ch → c < (M q).size := by rw [s1]; exact hi.gsz
      have hroomq : m0.size + is.countP (fun x => x.op.cls == .A) ≤ (M q).size := by rw [s1]; exact hi.room
      have hdeadj : ∀ j, q ≤ j → j < l.length → (insAt is l j).op.cls = .A → (M (q + 1)).get (holeAt is l m0.size j) = none := by
        intro j h1 h2 h3
        have hlt := hg.hole_lt (base := m0.size) h2 h3
        exact g2.dead _ (by omega) (s4 j h1 h2 h3)
      refine ⟨by omega, hes, .inr ⟨by simpa using hc, by simpa using onPut_self⟩, closed', frame (by rw [s1]; exact hi.sim) s2 hgs g1 g2, fun c ch h => by simp only [besideG, h],
        fun j h1 h2 h3 h4 h5 => ?_, fun j h1 h2 h3 => ?_, fun j h1 h2 h3 => hdeadj j (by omega) h2 h3, Nat.le_trans hroomq g2.msize, ?_,
        frame_st (by rw [s1]; exact hi.sim) s2 hgs (by omega) g2 hi.stf, fun c h1 h2 => ?_, fun c h1 h2 => ?_, by rw [put_defers]; exact hi.defs⟩
      · simp only [besideG, hdeadj j (by omega) h2 h4, s4 j (by omega) h2 h4, if_true]
        rw [onPut_ne (by omega)] at h3
        exact hi.side j (by omega) h2 h3 h4 h5
      · have hj : j ≠ q := by rintro rfl; rw [onPut_self] at h2; cases h2
        rw [onPut_ne hj] at h2
        have hlt := hg.hole_lt (base := m0.size) h1 h3
        rw [g2.ler _ (by omega)]
        exact hi.free j h1 h2 h3
      · rw [hwrite, hdst]
        exact (hi.env.mono g2.leF (hs1.ler g2)).put g3
      · obtain ⟨k1, k2⟩ := g2.dirt c (by omega) h2
        obtain ⟨k3, k4⟩ := s3 c h1
        obtain ⟨k5, k6⟩ := hi.dirt c h1 (k4 k1)
        exact ⟨k5, by rw [k2, k3, k6]⟩
      · exact g2.dead c (by omega) (by rw [(s3 c h1).1]; exact hi.dead c h1 h2)
  · rename_i hw
    have hw : wantedV (insAt is l q).guard (A q) = false := by simpa using hw
    obtain ⟨hv, hM⟩ := hun hw
    have hundef : VR F r (vs q) undef := by rw [hv]; exact .tup rfl fun i h => by cases h
    refine ⟨fun f _ => fe_fn rdb f, ?_⟩
    have henv : VRs F r (envL is l vs a0 (onPut on q)) (ca.put o.dst undef).tmps := by
      rw [hwrite, hdst]; exact hi.env.put hundef
    have hsidej : ∀ j, p ≤ j → j < l.length → onPut on q j = true → (insAt is l j).op.cls = .A → wantedV (insAt is l j).guard (A j) = true → g (holeAt is l m0.size j) = some (cs j) := by
      intro j h1 h2 h3 h4 h5
      have hj : j ≠ q := by rintro rfl; rw [hw] at h5; cases h5
      rw [onPut_ne hj] at h3
      exact hi.side j h1 h2 h3 h4 h5
    have hfreej : ∀ j, j < l.length → onPut on q j = false → (insAt is l j).op.cls = .A → r (holeAt is l m0.size j) = none := by
      intro j h1 h2 h3
      have hj : j ≠ q := by rintro rfl; rw [onPut_self] at h2; cases h2
      rw [onPut_ne hj] at h2
      exact hi.free j h1 h2 h3
    by_cases hc : (insAt is l q).op.cls = .E
    · obtain ⟨hpq, hes, hnoE⟩ := isE hc
      obtain ⟨s1, s2, s3, s4⟩ := segq (.inl hc) hpq hnoE
      refine hK F r (q + 1) g _ w ⟨by omega, hes, .inr ⟨by simpa using hc, by simpa using onPut_self⟩, closed', by rw [hM, s1]; exact hi.sim, by rw [hM]; exact s2,
        fun j h1 => hsidej j (by omega), hfreej, fun j h1 h2 h3 => by rw [hM]; exact s4 j (by omega) h2 h3, by rw [hM, s1]; exact hi.room, henv, hi.stf, fun c h1 h2 => ?_, fun c h1 h2 => ?_,
        by rw [put_defers]; exact hi.defs⟩
      · rw [hM] at h2 ⊢
        obtain ⟨k3, k4⟩ := s3 c h1
        obtain ⟨k5, k6⟩ := hi.dirt c h1 (k4 h2)
        exact ⟨k5, by rw [k3, k6]⟩
      · rw [hM, (s3 c h1).1]; exact hi.dead c h1 h2
    · obtain ⟨e1, e2⟩ := notE hc
      exact hK F r p g _ w ⟨hi.ple, e1, e2, closed', hi.sim, hi.sub, hsidej, hfreej, hi.notyet, hi.room, henv, hi.stf, hi.dirt, hi.dead, by rw [put_defers]; exact hi.defs⟩

end
end Go.Proofs.YtjjgiigbhjfkaaaGreatDoor.Am

namespace Go.Proofs.YtjjgiigbhjfkaaaGreatDoor.Am
open Go

theorem pads_size : ∀ (n : Nat) (m : Mem), (pads n m).size = m.size + n
  | 0, m => rfl
  | n + 1, m => by simp only [pads]; rw [pads_size n]; simp; omega
theorem pads_get : ∀ (n : Nat) (m : Mem) (c : Nat), (pads n m).get c = m.get c
  | 0, m, c => rfl
  | n + 1, m, c => by
    simp only [pads]
    rw [pads_get n]
    by_cases h : c < m.size
    · exact Mem.get_push_old h
    · rw [Mem.get_ge (m := m) (by omega)]
      cases hg : (m.push .dead).get c with
      | none => rfl
      | some ch =>
        rcases Mem.get_push hg with ⟨h1, _⟩ | ⟨h1, h2⟩
        · omega
        · subst h1 h2
          unfold Mem.get Mem.push at hg
          simp at hg
theorem pads_d : ∀ (n : Nat) (m : Mem), (pads n m).d = m.d
  | 0, m => rfl
  | n + 1, m => by simp only [pads]; rw [pads_d n]; rfl

section
variable {is : List Ins} {b l : List Nat} {call : CallV} {A : Nat → List V} {M : Nat → Mem} {vs : Nat → V} {cs : Nat → Chunk}
variable {P : Program} {G : Glob} {F0 : Frz} {r0 : Loc} {m0 : Mem} {w0 : World} {a0 : List V} {ds0 : List Deferred} {ops : Array Oper}

theorem envL_all {vs : Nat → V} {on : Nat → Bool} (hA : A 0 = a0) (hst : ∀ k, k < l.length → StepAt call is b m0.size l A M vs cs k) (hall : ∀ k, k < l.length → on k = true) :
    envL is l vs a0 on = A l.length := by
  obtain ⟨h1, h2⟩ := A_env hA hst l.length (Nat.le_refl _)
  have key : ∀ t k, k ≤ l.length → envt is l vs a0 on t k = envt is l vs a0 (fun _ => true) t k := by
    intro t k
    induction k with
    | zero => intro _; rfl
    | succ k ih =>
      intro hk
      simp only [envt, hall k (by omega), true_and, ih (by omega)]
  apply List.ext_getElem?
  intro t
  by_cases ht : t < a0.length
  · have e1 := envL_getD (is := is) (l := l) (vs := vs) (a0 := a0) (on := on) (t := t)
    rw [if_pos ht, key t l.length (Nat.le_refl _), ← h2 t ht] at e1
    have l1 : t < (envL is l vs a0 on).length := by rw [envL_len]; exact ht
    have l2 : t < (A l.length).length := by omega
    rw [List.getD_eq_getElem?_getD, List.getD_eq_getElem?_getD, List.getElem?_eq_getElem l1, List.getElem?_eq_getElem l2] at e1
    rw [List.getElem?_eq_getElem l1, List.getElem?_eq_getElem l2]
    simpa using e1
  · rw [List.getElem?_eq_none (by rw [envL_len]; omega), List.getElem?_eq_none (by omega)]

theorem envL_none {vs : Nat → V} : envL is l vs a0 (fun _ => false) = a0 := by
  have key : ∀ t k, envt is l vs a0 (fun _ => false) t k = a0.getD t undefV := by
    intro t k
    induction k with
    | zero => rfl
    | succ k ih => simp [envt, ih]
  apply List.ext_getElem?
  intro t
  by_cases ht : t < a0.length
  · have e1 := envL_getD (is := is) (l := l) (vs := vs) (a0 := a0) (on := fun _ => false) (t := t)
    rw [if_pos ht, key] at e1
    have l1 : t < (envL is l vs a0 (fun _ => false)).length := by rw [envL_len]; exact ht
    rw [List.getD_eq_getElem?_getD, List.getD_eq_getElem?_getD, List.getElem?_eq_getElem l1, List.getElem?_eq_getElem ht] at e1
    rw [List.getElem?_eq_getElem l1, List.getElem?_eq_getElem ht]
    simpa using e1
  · rw [List.getElem?_eq_none (by rw [envL_len]; omega), List.getElem?_eq_none (by omega)]

/-- All is done. -/
theorem inv_end (hg : Good is b l) (hA : A 0 = a0) (hst : ∀ k, k < l.length → StepAt call is b m0.size l A M vs cs k) {on : Nat → Bool} {F : Frz} {r : Loc} {p : Nat} {g : Nat → Option Chunk} {ca : Act}
    {w : World} (hi : Inv P G is b l A M vs cs F0 r0 m0 w0 a0 ds0 on F r p g ca w) (hall : ∀ k, k < l.length → on k = true) :
    Sim (KC P G) F r (M l.length) w ∧ St F0 r0 m0 w0 F r (M l.length) w ∧ VRs F r (A l.length) ca.tmps := by
  have hne : ∀ j, p ≤ j → j < l.length → (insAt is l j).op.cls ≠ .E := by
    intro j hj hjl hc
    have := (hi.es j hjl hc).1 (hall j hjl); omega
  obtain ⟨s1, s2, s3⟩ := segment hg hst hi.room l.length hi.ple (Nat.le_refl _) hne
  have hsub : ∀ c ch, (M l.length).get c = some ch → g c = some ch := by
    intro c ch h
    rcases s2 c ch h with h | ⟨j, a1, a2, a3, a4, rfl, rfl⟩
    · exact hi.sub c ch h
    · exact hi.side j a1 a2 (hall j a2) a3 a4
  have hroom := hi.room
  refine ⟨SimG.weaken (by rw [s1]; exact hi.sim) hsub, ⟨hi.stf.size, by omega, hi.stf.keep, fun b hb ho => ?_, hi.stf.frz, hi.stf.leF, hi.stf.ler, fun c hc hd => ?_, fun c hc hd => ?_, hi.stf.io⟩, ?_⟩
  · obtain ⟨c, ch, N, k1, k2⟩ := ho
    exact hi.stf.own b hb ⟨c, ch, N, hsub c ch k1, k2⟩
  · obtain ⟨k1, k2⟩ := s3 c hc
    obtain ⟨k3, k4⟩ := hi.dirt c hc (k2 hd)
    exact ⟨k3, by rw [k1, k4]⟩
  · rw [(s3 c hc).1]; exact hi.dead c hc hd
  · rw [← envL_all hA hst hall]; exact hi.env

theorem countP_put {on : Nat → Bool} {q n : Nat} (hq : q < n) (hoff : on q = false) :
    (List.range n).countP (fun k => !on k) = (List.range n).countP (fun k => !onPut on q k) + 1 := by
  induction n with
  | zero => omega
  | succ n ih =>
    rw [List.range_succ, List.countP_append, List.countP_append]
    by_cases h : q = n
    · subst h
      have : (List.range q).countP (fun k => !on k) = (List.range q).countP (fun k => !onPut on q k) := by
        apply List.countP_congr
        intro k hk
        rw [onPut_ne (by have := List.mem_range.1 hk; omega)]
      rw [this]
      simp [List.countP_cons, hoff, onPut]
    · rw [ih (by omega)]
      have : onPut on q n = on n := onPut_ne (Ne.symm h)
      simp only [List.countP_cons, List.countP_nil, this]
      omega

theorem any_sound (hcall : CallOK (KC P G) P G call) (hg : Good is b l) (hb : b = (Region.before ops).toList) (hlen : l.length = ops.size)
    (hops : ∀ k, k < l.length → ∃ o, ops[l.getD k 0]? = some o ∧ cIns P G ops o = some (insAt is l k)) (hA : A 0 = a0) (hst : ∀ k, k < l.length → StepAt call is b m0.size l A M vs cs k)
    (hG : GlobOK F0 G) {rdb : Option Nat} {n : Nat} {Q : Exit → Act → World → Prop}
    (hQ : ∀ on F r p g ca w, Inv P G is b l A M vs cs F0 r0 m0 w0 a0 ds0 on F r p g ca w → (∀ k, k < l.length → on k = true) → Q .normal ca w) :
    ∀ (fuel : Nat) (listed : Array Bool) (on : Nat → Bool) (F : Frz) (r : Loc) (p : Nat) (g : Nat → Option Chunk) (ca : Act) (w : World), Inv P G is b l A M vs cs F0 r0 m0 w0 a0 ds0 on F r p g ca w →
      listed.size = ops.size → (∀ k, k < l.length → listed.getD (l.getD k 0) false = on k) → (List.range l.length).countP (fun k => !on k) = fuel →
      wpAnyIn (fe rdb) n P .any ops Q fuel listed ca w := by
  have hN : is.length = ops.size := by rw [← hg.len, hlen]
  have getD_same : ∀ (listed : Array Bool) (i : Nat), i < listed.size → listed.getD i true = listed.getD i false := by
    intro listed i hi
    simp [Array.getD_eq_getD_getElem?, Array.getElem?_eq_getElem hi]
  intro fuel
  induction fuel with
  | zero =>
    intro listed on F r p g ca w hi hsz hon hcnt
    have hall : ∀ k, k < l.length → on k = true := by
      intro k hk
      rw [List.countP_eq_zero] at hcnt
      have := hcnt k (List.mem_range.2 hk)
      simpa using this
    refine ⟨?_, hQ on F r p g ca w hi hall⟩
    rw [List.eq_nil_iff_forall_not_mem]
    intro i hmem
    obtain ⟨h1, o, ho, _⟩ := mem_ready.1 hmem
    have hi' : i < ops.size := (Array.getElem?_eq_some_iff.1 ho).1
    obtain ⟨k, hk, rfl⟩ := hg.all i (by omega)
    rw [getD_same _ _ (by omega), hon k hk, hall k hk] at h1
    cases h1
  | succ fuel ih =>
    intro listed on F r p g ca w hi hsz hon hcnt
    refine ⟨fun hnil => ?_, fun i hmem => ?_⟩
    · -- something is ready
      exfalso
      have hex : ∃ k, k < l.length ∧ on k = false := by
        refine Classical.byContradiction fun hno => ?_
        have : (List.range l.length).countP (fun k => !on k) = 0 := by
          rw [List.countP_eq_zero]
          intro k hk
          cases ho : on k with
          | true => simp
          | false => exact absurd ⟨k, List.mem_range.1 hk, ho⟩ hno
        omega
      obtain ⟨k, ⟨hk, hoff⟩, hmin⟩ := least hex
      obtain ⟨o, ho, _⟩ := hops k hk
      have hlt := hg.lt k hk
      have : l.getD k 0 ∈ Region.ready .any ops listed := by
        refine mem_ready.2 ⟨by rw [getD_same _ _ (by omega), hon k hk, hoff], o, ho, fun e he hbi => ?_⟩
        have hp := pre_edge ho (by simpa using he) hbi
        rw [← hb] at hp
        have hen := hg.mask _ _ hp
        obtain ⟨k', hk', he'⟩ := hg.all e.on hen
        rw [← he'] at hp ⊢
        rw [hon k' hk']
        rcases Nat.lt_trichotomy k' k with h | h | h
        · cases hok : on k' with
          | true => rfl
          | false => have := hmin k' ⟨hk', hok⟩; omega
        · subst h; rw [hg.irr _ hlt] at hp; cases hp
        · have hpr := hg.pair k k' h hk'
          simp only [pairOK, Bool.and_eq_true, Bool.not_eq_true'] at hpr
          rw [hpr.1.2] at hp; cases hp
      rw [hnil] at this; cases this
    · obtain ⟨h1, o, ho, hall⟩ := mem_ready.1 hmem
      have hi' : i < ops.size := (Array.getElem?_eq_some_iff.1 ho).1
      obtain ⟨q, hq, rfl⟩ := hg.all i (by omega)
      have hoff : on q = false := by
        rw [← hon q hq, ← getD_same _ _ (by omega)]; exact h1
      have hpre : ∀ j, j < l.length → pre b (l.getD j 0) (l.getD q 0) = true → on j = true := by
        intro j hj hp
        rw [hb] at hp
        obtain ⟨o', ho', e, he, hbi, hje⟩ := pre_spec hp
        rw [ho] at ho'; cases ho'
        have hl := hall e (by simpa using he) hbi
        rcases hje with hje | hje
        · rw [← hon j hj, hje]; exact hl
        · have hen : e.on < listed.size := by
            rcases Nat.lt_or_ge e.on listed.size with h | h
            · exact h
            · rw [Array.getD_eq_getD_getElem?, Array.getElem?_eq_none h] at hl; cases hl
          obtain ⟨k', hk', he'⟩ := hg.all e.on (by omega)
          rw [← he'] at hl hje
          rw [hon k' hk'] at hl
          rw [← hb] at hje
          exact hi.closed j k' hj hk' hje hl
      refine step_sound hcall hg hlen hops hA hst hG hi hq hoff hpre fun F' r' p' g' ca' w' hi2 => ?_
      refine ih _ (onPut on q) F' r' p' g' ca' w' hi2 (by simpa using hsz) (fun k hk => ?_) ?_
      · by_cases hkq : k = q
        · subst hkq
          rw [onPut_self, Array.getD_eq_getD_getElem?, Array.getElem?_setIfInBounds_self, if_pos (by omega)]; rfl
        · rw [onPut_ne hkq, ← hon k hk, Array.getD_eq_getD_getElem?, Array.getElem?_setIfInBounds_ne (fun e => hkq (hg.op_inj hk hq e.symm)), ← Array.getD_eq_getD_getElem?]
      · have := countP_put hq hoff
        omega

/-- **A region that draws.** -/
theorem draw_sound (hm : P.follows .mixedOrders = true) (hcall : CallOK (KC P G) P G call) : DrawOK P G call := by
  intro id ops is F r m w a ca a' m' rdb n Q his hok hs ha hG hrun hQ
  have hg := good hok
  generalize hl : canon is (Region.before ops).toList = l at hok hg hrun
  obtain ⟨A, M, vs, cs, hA, hM, hA', hM', hst, _⟩ := trace l hrun
  obtain ⟨hil, hig⟩ := cInss_get his
  have hN : is.length = ops.size := by rw [← hil]; simp
  have hlen : l.length = ops.size := by rw [hg.len, hN]
  have hops : ∀ k, k < l.length → ∃ o, ops[l.getD k 0]? = some o ∧ cIns P G ops o = some (insAt is l k) := by
    intro k hk
    have hlt := hg.lt k hk
    have hlt' : l.getD k 0 < ops.size := by omega
    refine ⟨ops[l.getD k 0], Array.getElem?_eq_getElem hlt', ?_⟩
    have := hig (l.getD k 0) (by simpa using hlt') hlt
    simp only [Array.getElem_toList] at this
    rw [this]
    simp only [insAt]
    rw [List.getD_eq_getElem?_getD (l := is), List.getElem?_eq_getElem hlt]; rfl
  refine wpIn_region_any hm ?_
  have hpg := pads_get (is.countP fun x => x.op.cls == .A) m
  have hps := pads_size (is.countP fun x => x.op.cls == .A) m
  have hpd := pads_d (is.countP fun x => x.op.cls == .A) m
  have hw : ({ w with drawn := w.drawn + 1 } : World).heap = w.heap := rfl
  have inv0 : Inv P G is (Region.before ops).toList l A M vs cs F r m w a ca.defers (fun _ => false) F r 0 m.get ca { w with drawn := w.drawn + 1 } := by
    have hsG := (hs.world hw).toG
    refine ⟨Nat.zero_le _, fun q _ _ => by simp, .inl rfl, (fun j k _ _ _ h => by cases h), ⟨fun c x hx => ?_, hsG.obj, hsG.inj, hsG.frz⟩, fun c ch h => ?_, (fun j _ _ h => by cases h), fun j hj _ hc => ?_,
      fun j _ hj hc => ?_, ?_, ?_, ⟨Nat.le_refl _, fun _ _ _ => rfl, fun b hb h => h, fun b _ h1 h2 => absurd h1 h2, Frz.le_refl _, fun _ _ => rfl, rfl, rfl⟩, fun c hc hd => ?_, fun c hc hd => ?_, rfl⟩
    · rw [hM, hps]; have := hs.dom c x hx; omega
    · rw [hM, hpg] at h; exact h
    · cases hr : r (holeAt is l m.size j) with
      | none => rfl
      | some x => have := hs.dom _ _ hr; unfold holeAt at this; omega
    · rw [hM, hpg]
      exact Mem.get_ge (by unfold holeAt; omega)
    · rw [hM, hps]; omega
    · rw [envL_none]; exact ha
    · rw [hM, hpd] at hd
      exact ⟨hd, by rw [hM, hpg]⟩
    · rw [hM, hpg]; exact hd
  have hcnt : (List.range l.length).countP (fun k => !(fun _ => false) k) = ops.size := by
    rw [← hlen]
    simp
  refine any_sound hcall hg rfl hlen hops hA hst hG (fun on F' r' p' g' ca' w' hi hall => ?_) ops.size _ (fun _ => false) F r 0 m.get ca _ inv0 (by simp) (fun k hk => ?_) hcnt
  · obtain ⟨e1, e2, e3⟩ := inv_end hg hA hst hi hall
    rw [hM'] at e1 e2
    rw [hA'] at e3
    exact hQ ca' w' F' r' hi.defs e1 e2 e3
  · have := hg.lt k hk
    rw [Array.getD_eq_getD_getElem?, Array.getElem?_replicate]
    split <;> rfl

/-- **The machine answers as the program does**, draws and all. -/
theorem machine_ok {tab : Nat → Option FnIR} {ext : ExtV} {sp : SpV} {L : Nat} (hm : P.follows .mixedOrders = true) (hext : ExtOK (KC P G) P G ext) (hsp : SpOK P G sp) (htab : ∀ f fi, tab f = some fi → FnOK P G f fi) (d : Nat) :
    CallOK (KC P G) P G (machine tab ext sp L d).1 ∧ EnterOK (KC P G) P G (machine tab ext sp L d).2 :=
  machine_sound hext hsp htab (fun _ h => draw_sound hm h) d

end
end Go.Proofs.YtjjgiigbhjfkaaaGreatDoor.Am

namespace Go.Proofs.YtjjgiigbhjfkaaaGreatDoor.Am
open Go

/- Two runs of one code whose frames differ in some temporaries alone that nobody reads, but for some regions of which more is known. -/
def xOff (T : List Nat) (ts : List Nat) : Bool := ts.all fun t => !T.contains t
def dstOff (K : List Nat) (d : Option Nat) : Bool := match d with
  | some d => !K.contains d
  | none => true
def insOff (T K : List Nat) (i : Ins) : Bool := xOff T i.ts && dstOff K i.dst
/-- The leaves of a code that read what differs, or write what must stay. -/
def IR.leaves (T K : List Nat) : IR → List IR
  | .skip | .exit _ | .ret => []
  | .seq a b => a.leaves T K ++ b.leaves T K
  | .region is => if is.all (insOff T K) then [] else [.region is]
  | .draw is b l => if is.all (insOff T K) then [] else [.draw is b l]
  | .cond x a b => if xOff T x.ts then a.leaves T K ++ b.leaves T K else [.cond x a b]
  | .block _ a => a.leaves T K
  | .loop a => a.leaves T K
  | .rangeFunc f ps a b => [.rangeFunc f ps a b]

def ResRel (R : List V → List V → Prop) : Option (Out × List V × Mem) → Option (Out × List V × Mem) → Prop
  | none, none => True
  | some (o, a, m), some (o', a', m') => o = o' ∧ m = m' ∧ R a a'
  | _, _ => False

structure RelOK (R : List V → List V → Prop) (T K : List Nat) : Prop where
  len : ∀ {a a'}, R a a' → a.length = a'.length
  off : ∀ {a a'}, R a a' → ∀ i, i ∉ T → a.getD i undefV = a'.getD i undefV
  put : ∀ {a a'}, R a a' → ∀ d v, d ∉ K → R (a.set d v) (a'.set d v)

section
variable {R : List V → List V → Prop} {T K : List Nat}

theorem xOff_mem {ts : List Nat} (h : xOff T ts = true) : ∀ t ∈ ts, t ∉ T := by
  intro t ht
  have := List.all_eq_true.1 h t ht
  simpa using this

theorem RelOK.putV (hR : RelOK R T K) {a a' : List V} (h : R a a') {d : Option Nat} (hd : dstOff K d = true) (v : V) : R (putV a d v) (putV a' d v) := by
  cases d with
  | none => exact h
  | some d => exact hR.put h d v (by simpa [dstOff] using hd)

theorem RelOK.ts (hR : RelOK R T K) {a a' : List V} (h : R a a') {ts : List Nat} (ht : xOff T ts = true) : ∀ t ∈ ts, a.getD t undefV = a'.getD t undefV :=
  fun t hm => hR.off h t (xOff_mem ht t hm)

theorem RelOK.ins (hR : RelOK R T K) {call : CallV} {i : Ins} (hi : insOff T K i = true) {a a' : List V} (h : R a a') (m : Mem) :
    match insRun call i a m, insRun call i a' m with
    | none, none => True
    | some (a1, m1), some (a1', m1') => m1 = m1' ∧ R a1 a1'
    | _, _ => False := by
  simp only [insOff, Bool.and_eq_true] at hi
  have ht := hR.ts h hi.1
  have e1 := Ins.ts_guard (hR.len h) ht
  have e2 := opRun_congr (call := call) (Ins.ts_xs ht) m
  unfold insRun
  rw [e1, e2]
  by_cases hw : wantedV i.guard a' = true
  · rw [if_pos hw, if_pos hw]
    cases hr : opRun call i.op a' m with
    | none => simp
    | some p => exact ⟨rfl, hR.putV h hi.2 _⟩
  · rw [if_neg hw, if_neg hw]
    exact ⟨rfl, hR.putV h hi.2 _⟩

theorem RelOK.inss (hR : RelOK R T K) {call : CallV} : ∀ {is : List Ins}, is.all (insOff T K) = true → ∀ {a a' : List V}, R a a' → ∀ (m : Mem),
    match inssRun call is a m, inssRun call is a' m with
    | none, none => True
    | some (a1, m1), some (a1', m1') => m1 = m1' ∧ R a1 a1'
    | _, _ => False
  | [], _, a, a', h, m => ⟨rfl, h⟩
  | i :: is, hi, a, a', h, m => by
    simp only [List.all_cons, Bool.and_eq_true] at hi
    have := hR.ins (call := call) hi.1 h m
    simp only [inssRun]
    split at this
    · rename_i e1 e2; rw [e1, e2]; trivial
    · rename_i a1 m1 a1' m1' e1 e2
      rw [e1, e2]
      obtain ⟨rfl, h1⟩ := this
      exact RelOK.inss hR hi.2 h1 _
    · exact this.elim

theorem RelOK.draw (hR : RelOK R T K) {call : CallV} {is : List Ins} {b : List Nat} {base : Nat} (hi : is.all (insOff T K) = true) : ∀ (l : List Nat) (ps ps' : Pend)
    (_ : ∀ e m, pendOK b e m ps = pendOK b e m ps') {a a' : List V}, R a a' → ∀ (m : Mem),
    match drawRun call is b base l ps a m, drawRun call is b base l ps' a' m with
    | none, none => True
    | some (a1, m1), some (a1', m1') => m1 = m1' ∧ R a1 a1'
    | _, _ => False
  | [], ps, ps', _, a, a', h, m => ⟨rfl, h⟩
  | i :: l, ps, ps', hp, a, a', h, m => by
    unfold drawRun
    cases hx : is[i]? with
    | none => simp
    | some x =>
      have hxo : insOff T K x = true := List.all_eq_true.1 hi x (List.mem_of_getElem? hx)
      simp only [insOff, Bool.and_eq_true] at hxo
      have ht := hR.ts h hxo.1
      have e1 := Ins.ts_guard (hR.len h) ht
      have e2 := fun m => run_congr (Ins.ts_xs ht) m
      have e3 := fun c => runA_congr (Ins.ts_xs ht) c
      have e4 := fun m => opRun_congr (call := call) (Ins.ts_xs ht) m
      simp only [e1, e2, e3, e4]
      by_cases hw : wantedV x.guard a' = true
      · simp only [hw, if_true]
        cases hc : x.op.cls with
        | P =>
          simp only
          cases hr : x.op.run a' m with
          | none => simp
          | some p => exact RelOK.draw hR hi l ps ps' hp (hR.putV h hxo.2 _) _
        | R =>
          simp only
          cases hr : x.op.run a' m with
          | none => simp
          | some p =>
            refine RelOK.draw hR hi l _ _ ?_ (hR.putV h hxo.2 _) _
            intro e m1
            simp only [pendOK, e2, hp]
        | A =>
          simp only
          cases hr : x.op.runA a' (base + rank is i) with
          | none => simp
          | some p => exact RelOK.draw hR hi l ps ps' hp (hR.putV h hxo.2 _) _
        | E =>
          simp only
          cases hr : opRun call x.op a' m with
          | none => simp
          | some p =>
            simp only [hp]
            by_cases hq : pendOK b i p.2 ps' = true
            · simp only [hq, if_true]
              exact RelOK.draw hR hi l ps ps' hp (hR.putV h hxo.2 _) _
            · simp [hq]
      · simp only [hw, hp, if_false, Bool.false_eq_true]
        by_cases hq : x.op.cls = .E ∧ pendOK b i m ps' = false
        · rw [if_pos hq, if_pos hq]; trivial
        · rw [if_neg hq, if_neg hq]
          exact RelOK.draw hR hi l ps ps' hp (hR.putV h hxo.2 _) _

theorem ResRel.none_none : ResRel R none none := trivial

theorem ResRel.iter {f : List V → Mem → Option (Out × List V × Mem)} (hf : ∀ {a a'}, R a a' → ∀ m, ResRel R (f a m) (f a' m)) :
    ∀ (n : Nat) {a a' : List V}, R a a' → ∀ m, ResRel R (iter f n a m) (iter f n a' m)
  | 0, _, _, _, _ => trivial
  | n + 1, a, a', h, m => by
    have := hf h m
    unfold Am.iter
    cases h1 : f a m with
    | none =>
      cases h2 : f a' m with
      | none => trivial
      | some p => rw [h1, h2] at this; exact this.elim
    | some p =>
      obtain ⟨o, a1, m1⟩ := p
      cases h2 : f a' m with
      | none => rw [h1, h2] at this; exact this.elim
      | some p' =>
        obtain ⟨o', a1', m1'⟩ := p'
        rw [h1, h2] at this
        obtain ⟨rfl, rfl, h3⟩ := this
        cases o with
        | norm => exact ResRel.iter hf n h3 m1
        | exit id => exact ⟨rfl, rfl, h3⟩
        | ret => exact ⟨rfl, rfl, h3⟩

/-- **Frames that agree where anybody looks give runs that agree.** -/
theorem RelOK.code (hR : RelOK R T K) {call : CallV} {enter : EnterV} {L : Nat} {rd : Option Nat} : ∀ (ir : IR)
    (_ : ∀ x ∈ ir.leaves T K, ∀ {a a' : List V}, R a a' → ∀ m, ResRel R (codeRun call enter L rd x a m) (codeRun call enter L rd x a' m)) {a a' : List V}, R a a' → ∀ m,
    ResRel R (codeRun call enter L rd ir a m) (codeRun call enter L rd ir a' m)
  | .skip, _, a, a', h, m => ⟨rfl, rfl, h⟩
  | .exit id, _, a, a', h, m => ⟨rfl, rfl, h⟩
  | .ret, _, a, a', h, m => ⟨rfl, rfl, h⟩
  | .seq p q, hl, a, a', h, m => by
    have h1 := RelOK.code hR p (fun x hx => hl x (by simp [IR.leaves, hx])) h m
    simp only [codeRun]
    cases e1 : codeRun call enter L rd p a m with
    | none =>
      cases e2 : codeRun call enter L rd p a' m with
      | none => trivial
      | some _ => rw [e1, e2] at h1; exact h1.elim
    | some r =>
      obtain ⟨o, a1, m1⟩ := r
      cases e2 : codeRun call enter L rd p a' m with
      | none => rw [e1, e2] at h1; exact h1.elim
      | some r' =>
        obtain ⟨o', a1', m1'⟩ := r'
        rw [e1, e2] at h1
        obtain ⟨rfl, rfl, h3⟩ := h1
        cases o with
        | norm => exact RelOK.code hR q (fun x hx => hl x (by simp [IR.leaves, hx])) h3 m1
        | exit id => exact ⟨rfl, rfl, h3⟩
        | ret => exact ⟨rfl, rfl, h3⟩
  | .region is, hl, a, a', h, m => by
    by_cases hi : is.all (insOff T K) = true
    · have := hR.inss (call := call) hi h m
      simp only [codeRun]
      split at this
      · rename_i e1 e2; rw [e1, e2]; trivial
      · rename_i a1 m1 a1' m1' e1 e2
        rw [e1, e2]
        exact ⟨rfl, this.1, this.2⟩
      · exact this.elim
    · exact hl _ (by simp only [IR.leaves, if_neg hi, List.mem_singleton]) h m
  | .draw is b l, hl, a, a', h, m => by
    by_cases hi : is.all (insOff T K) = true
    · have := hR.draw (call := call) (b := b) (base := m.size) hi l [] [] (fun _ _ => rfl) h (pads ((is.countP fun x => x.op.cls == .A)) m)
      simp only [codeRun]
      split at this
      · rename_i e1 e2; rw [e1, e2]; trivial
      · rename_i a1 m1 a1' m1' e1 e2
        rw [e1, e2]
        exact ⟨rfl, this.1, this.2⟩
      · exact this.elim
    · exact hl _ (by simp only [IR.leaves, if_neg hi, List.mem_singleton]) h m
  | .cond x p q, hl, a, a', h, m => by
    by_cases hx : xOff T x.ts = true
    · have he : x.ev a = x.ev a' := X.ev_congr (hR.ts h hx)
      simp only [codeRun, he]
      cases x.ev a' <;> try trivial
      rename_i b
      cases b
      · exact RelOK.code hR q (fun y hy => hl y (by simp [IR.leaves, if_pos hx, hy])) h m
      · exact RelOK.code hR p (fun y hy => hl y (by simp [IR.leaves, if_pos hx, hy])) h m
    · exact hl _ (by simp only [IR.leaves, if_neg hx, List.mem_singleton]) h m
  | .block id p, hl, a, a', h, m => by
    have h1 := RelOK.code hR p (fun x hx => hl x (by simpa [IR.leaves] using hx)) h m
    simp only [codeRun]
    cases e1 : codeRun call enter L rd p a m with
    | none =>
      cases e2 : codeRun call enter L rd p a' m with
      | none => trivial
      | some _ => rw [e1, e2] at h1; exact h1.elim
    | some r =>
      obtain ⟨o, a1, m1⟩ := r
      cases e2 : codeRun call enter L rd p a' m with
      | none => rw [e1, e2] at h1; exact h1.elim
      | some r' =>
        obtain ⟨o', a1', m1'⟩ := r'
        rw [e1, e2] at h1
        obtain ⟨rfl, rfl, h3⟩ := h1
        cases o with
        | norm => exact ⟨rfl, rfl, h3⟩
        | ret => exact ⟨rfl, rfl, h3⟩
        | exit id' =>
          simp only
          split
          · exact ⟨rfl, rfl, h3⟩
          · exact ⟨rfl, rfl, h3⟩
  | .loop p, hl, a, a', h, m =>
    ResRel.iter (fun h m => RelOK.code hR p (fun x hx => hl x (by simpa [IR.leaves] using hx)) h m) L h m
  | .rangeFunc f ps p q, hl, a, a', h, m => hl _ (by simp [IR.leaves]) h m

/-- The temporaries that a function's results are read from. -/
def ResIR.t : ResIR → Nat
  | .tmp t => t
  | .cell a _ _ => a
theorem resVs_congr {a a' : List V} {m : Mem} : ∀ {rs : List ResIR}, (∀ x ∈ rs, a.getD x.t undefV = a'.getD x.t undefV) → resVs a m rs = resVs a' m rs
  | [], _ => rfl
  | .tmp t :: rs, h => by
    simp only [resVs, resVs_congr (fun x hx => h x (List.mem_cons_of_mem _ hx)), show a.getD t undefV = a'.getD t undefV from h (.tmp t) (by simp)]
  | .cell p g s :: rs, h => by
    simp only [resVs, resVs_congr (fun x hx => h x (List.mem_cons_of_mem _ hx)), show a.getD p undefV = a'.getD p undefV from h (.cell p g s) (by simp)]

theorem RelOK.fn (hR : RelOK R T K) {call : CallV} {enter : EnterV} {L : Nat} {fn : FnIR} {args args' : List V}
    (hl : ∀ x ∈ fn.body.leaves T K, ∀ {a a' : List V}, R a a' → ∀ m, ResRel R (codeRun call enter L none x a m) (codeRun call enter L none x a' m))
    (hr : (fn.res.all fun x => !T.contains x.t) = true)
    (h : R (args ++ List.replicate (fn.ntmps - args.length) undefV) (args' ++ List.replicate (fn.ntmps - args'.length) undefV)) (m : Mem) :
    fnRun call enter L fn args m = fnRun call enter L fn args' m := by
  have h1 := hR.code fn.body hl h { m with d := [] }
  unfold fnRun
  cases e1 : codeRun call enter L none fn.body (args ++ List.replicate (fn.ntmps - args.length) undefV) { m with d := [] } with
  | none =>
    cases e2 : codeRun call enter L none fn.body (args' ++ List.replicate (fn.ntmps - args'.length) undefV) { m with d := [] } with
    | none => rfl
    | some _ => rw [e1, e2] at h1; exact h1.elim
  | some r =>
    obtain ⟨o, a1, m1⟩ := r
    cases e2 : codeRun call enter L none fn.body (args' ++ List.replicate (fn.ntmps - args'.length) undefV) { m with d := [] } with
    | none => rw [e1, e2] at h1; exact h1.elim
    | some r' =>
      obtain ⟨o', a1', m1'⟩ := r'
      rw [e1, e2] at h1
      obtain ⟨rfl, rfl, h3⟩ := h1
      have e3 : resVs a1 m1 fn.res = resVs a1' m1 fn.res := resVs_congr fun x hx => hR.off h3 _ (by simpa using List.all_eq_true.1 hr x hx)
      cases o <;> simp only [e3]

end
end Go.Proofs.YtjjgiigbhjfkaaaGreatDoor.Am

namespace Go.Proofs.YtjjgiigbhjfkaaaGreatDoor.Am
open Go Go.ChangeShapes Go.WideShapes

section
variable {P : Program} {G : Glob}

theorem Sim.start {K : CodeR} {F : Frz} {W : World} (hfr : ∀ b C, F b = some C → ∃ e fr, W.heap[b]? = some (.cells C e fr)) : Sim K F nowhere ⟨0, [], []⟩ W :=
  ⟨fun c x h => (by cases h), fun c ch h => (by have := Mem.get_lt h; simp at this), fun c c' ch ch' b N N' h => (by have := Mem.get_lt h; simp at this), hfr⟩

/-- Behind a call nothing that was there has turned. -/
structure Kept (W W' : World) : Prop where
  os : W'.os = W.os
  output : W'.output = W.output
  size : W.heap.size ≤ W'.heap.size
  block : ∀ b, b < W.heap.size → W'.heap[b]? = W.heap[b]?

/-- **From the machine's answer at no memory to the call at any world.** -/
theorem entry {tab : Nat → Option FnIR} {ext : ExtV} {sp : SpV} {L d : Nat} (hm : P.follows .mixedOrders = true) (hext : ExtOK (KC P G) P G ext) (hsp : SpOK P G sp) (htab : ∀ f fi, tab f = some fi → FnOK P G f fi) {F : Frz} {W : World}
    (hG : GlobOK F G) (hfr : ∀ b C, F b = some C → ∃ e fr, W.heap[b]? = some (.cells C e fr)) {f : Nat} {args : List V} {uargs : Array Value} {v : V} {m' : Mem} (ha : VRs F nowhere args uargs)
    (h : (machine tab ext sp L d).2 f args ⟨0, [], []⟩ = some (v, m')) :
    Calls P f uargs W fun e W' => ∃ u F' r', e = .returned u ∧ VR F' r' v u ∧ Kept W W' := by
  obtain ⟨_, h2⟩ := (machine_ok (L := L) hm hext hsp htab d).2 hG (Sim.start hfr) ha h
  refine (callsIn_wide (n := 0)).1 (CallsIn.mono (show CallsIn Fence.wide 0 P f uargs W _ from h2 0) ?_)
  intro e W' he
  cases e with
  | panicked c => exact he.elim
  | outgrown => exact he.elim
  | returned u =>
    obtain ⟨F', r', s, st, hv⟩ := he
    refine ⟨u, F', r', rfl, hv, st.io.1, st.io.2, st.size, fun b hb => st.keep b hb ?_⟩
    rintro ⟨c, ch, N, hc, _⟩
    have := Mem.get_lt hc
    simp at this

theorem Kept.frozen {W W' : World} (h : Kept W W') {b off : Nat} (hb : b < W.heap.size) : W'.frozen? ⟨b, off, none⟩ = W.frozen? ⟨b, off, none⟩ := by
  simp only [World.frozen?, h.block b hb]

theorem Kept.keptBut {W W' : World} (h : Kept W W') (may : MemPlace → Prop) : W.keptBut W' may := by
  refine ⟨h.os, h.output, fun i hi => ?_⟩
  rw [h.block i hi]
  cases hx : W.heap[i]? with
  | none => trivial
  | some o => cases o <;> simp

/-- What is asked behind a call that turned nothing. -/
theorem post_kept {H : Type} {enc : TypeId × Value → H} {f : Func} {s : ChangeSpec} {apart fresh handsOn again : Bool} {W W' : World} {args : Array Value} {v : Value} {ds gs : List (DataW H)} {before pa pv : List MemPlace}
    (hW : DataW.Whole enc P f.params.toList s.vars apart W args.toList ds gs before)
    (hres : ∀ (b : Nat) (sp : Nat → Bool) (hd : Bool), DataW.TrodAll enc P W' b sp hd f.resultTypes.toList (v.resultList f.resultTypes.size) (s.fn H (ds ++ gs)).results [])
    (hargs : ∀ sp : Nat → Bool, (∀ p ∈ before, sp p.block = true) → DataW.TrodAll enc P W' 0 sp true f.params.toList args.toList (s.fn H (ds ++ gs)).args pa)
    (hvars : ∀ sp : Nat → Bool, (∀ p ∈ before, sp p.block = true) → DataW.TrodVars enc P W' sp s.vars (s.fn H (ds ++ gs)).vars pv)
    (hps : before = pa ++ pv) (hk : Kept W W')
    (hok : ∀ (j : Nat) (t : TypeId) (r : Value), f.resultTypes[j]? = some t → (v.resultList f.resultTypes.size)[j]? = some r → Value.okWide P W' .any 0 t r) :
    s.post enc P f apart fresh handsOn again W args v W' := by
  have hold : ∀ p ∈ before, (fun b => decide (b < W.heap.size)) p.block = true := fun p hp => by simpa using hW.lt p hp
  refine ⟨ds, gs, before, [], pa, pv, hW, hres _ _ _, hargs _ hold, hvars _ hold, hk.keptBut _, fun _ => ?_⟩
  have hlt : ∀ p ∈ before, p.block < W.heap.size := fun p hp => hW.lt p hp
  obtain ⟨_, _, _, _, _, hz, hn⟩ := hW
  refine ⟨hok, _, _, ([] ++ pa) ++ pv, ⟨[] ++ pa, pv, trodAll_append (hargs _ (fun _ _ => rfl)) (hres _ _ _), hvars _ (fun _ _ => rfl), rfl, ?_, ?_⟩, ?_⟩
  · intro b off hp
    have hp' : MemPlace.cell b off ∈ before := by rw [hps]; simpa using hp
    rw [show W'.frozen? ⟨b, off, none⟩ = W.frozen? ⟨b, off, none⟩ from hk.frozen (hlt _ hp')]
    exact hz b off hp'
  · intro ha
    have := hn ha
    rw [hps] at this
    simpa using this
  · intro p hp _
    rw [hps]
    simpa using hp

end
end Go.Proofs.YtjjgiigbhjfkaaaGreatDoor.Am

namespace Go.Proofs.YtjjgiigbhjfkaaaGreatDoor.Am
open Go

/- Externs of the library's byte searches. -/
def firstAt (c : Nat) : List Nat → Nat → Int
  | [], _ => -1
  | x :: s, k => if x = c then k else firstAt c s (k + 1)
def countOf (c : Nat) : List Nat → Nat → Nat
  | [], k => k
  | x :: s, k => if x = c then countOf c s (k + 1) else countOf c s k
def byteV : V → Option Nat
  | .int .u8 n => if 0 ≤ n ∧ n < 256 then some n.toNat else none
  | _ => none
def extIndexByte (a : List V) (m : Mem) : Option (V × Mem) := match a with
  | [.str s, c] => match byteV c with
    | some c => some (.int .i64 (firstAt c s 0), m)
    | none => none
  | _ => none
def extCount (a : List V) (m : Mem) : Option (V × Mem) := match a with
  | [.str s, c] => match byteV c with
    | some c => some (.int .i64 (countOf c s 0), m)
    | none => none
  | _ => none

theorem firstAt_range {c : UInt8} : ∀ (bs : List UInt8) (k : Nat) (p : Nat → Bool), (∀ i (h : i < bs.length), p (k + i) = (bs[i] == c)) →
    (match (List.range' k bs.length).find? p with | some i => (i : Int) | none => -1) = firstAt c.toNat (bs.map UInt8.toNat) k
  | [], k, p, _ => rfl
  | x :: bs, k, p, h => by
    have h0 := h 0 (by simp)
    simp only [Nat.add_zero, List.getElem_cons_zero] at h0
    simp only [List.length_cons, List.range'_succ, List.find?_cons, h0, List.map_cons, firstAt]
    by_cases hx : x = c
    · subst hx; simp
    · have hn : ¬ x.toNat = c.toNat := fun e => hx (UInt8.toNat_inj.1 e)
      have hb : (x == c) = false := by simpa using hx
      rw [hb, if_neg hn]
      exact firstAt_range bs (k + 1) p fun i hi => by
        have := h (i + 1) (by simp; omega)
        rw [show k + 1 + i = k + (i + 1) by omega, this]; simp

theorem firstIdx_eq {s : ByteArray} {c : UInt8} : firstIdx s c = firstAt c.toNat (s.data.toList.map UInt8.toNat) 0 := by
  have := firstAt_range (c := c) s.data.toList 0 (fun i => s[i]! == c) (fun i hi => by
    have hi' : i < s.size := by simpa using hi
    simp only [Nat.zero_add]
    rw [getElem!_pos s i hi']
    rfl)
  unfold firstIdx
  rw [List.range_eq_range']
  rw [← this]
  have hl : s.size = s.data.toList.length := by simp
  rw [hl]
  generalize List.find? _ _ = x
  cases x <;> rfl

section
variable {K : CodeR} {F : Frz} {r : Loc} {m : Mem} {w : World} {P : Program} {G : Glob}

theorem byteV_sound {c : V} {n : Nat} {u : Value} (h : byteV c = some n) (hc : VR F r c u) : ∃ k : Int, u = .int .u8 k ∧ k.toNat.toUInt8.toNat = n := by
  cases c <;> simp only [byteV, reduceCtorEq] at h
  rename_i k x
  cases k <;> simp only [reduceCtorEq] at h
  split at h
  · rename_i hn
    cases h
    cases hc
    refine ⟨x, rfl, ?_⟩
    simp only [Nat.toUInt8, UInt8.toNat_ofNat']
    omega
  · cases h

theorem extIndexByte_sound {f : Nat} {fn : Func} (hf : P.funcs[f]? = some fn) (hname : (fn.name == "runtime.NumGoroutine") = false) (hb : fn.body.isNone = true)
    (hn : Extern.findNext fn = none) (he : Extern.find fn = some Extern.BytealgIndexByte.indexByte) {args : List V} {uargs : Array Value} {v : V} {m' : Mem} (hs : Sim K F r m w)
    (ha : VRs F r args uargs) (h : extIndexByte args m = some (v, m')) : CallRes K P F r m w (callFunc f uargs) v m' := by
  unfold extIndexByte at h
  split at h
  · rename_i s c
    split at h
    · rename_i n hn'
      cases h
      obtain ⟨us, uc, rfl, hvs, hvc⟩ := ha.two
      cases hvs with | str hb' =>
      rename_i b
      obtain ⟨k, rfl, hk⟩ := byteV_sound hn' hvc
      refine .inl ⟨.int .i64 (firstIdx b k.toNat.toUInt8), w, F, r, ?_, hs, .refl .., ?_⟩
      · rw [run_callFunc_extern hf hname hb hn he, run_indexByte_string]; rfl
      · rw [firstIdx_eq, hb', hk]; exact .int
    · cases h
  · cases h

end

end Go.Proofs.YtjjgiigbhjfkaaaGreatDoor.Am

namespace Go.Proofs.YtjjgiigbhjfkaaaGreatDoor.Am
open Go

theorem countOf_eq {c : UInt8} : ∀ (bs : List UInt8) (k : Nat), countOf c.toNat (bs.map UInt8.toNat) k = bs.count c + k
  | [], k => by simp [countOf]
  | x :: bs, k => by
    simp only [List.map_cons, countOf]
    by_cases hx : x = c
    · subst hx
      rw [if_pos rfl, countOf_eq bs, List.count_cons_self]; omega
    · have hn : ¬ x.toNat = c.toNat := fun e => hx (UInt8.toNat_inj.1 e)
      rw [if_neg hn, countOf_eq bs, List.count_cons_of_ne hx]

section
variable {K : CodeR} {F : Frz} {r : Loc} {m : Mem} {w : World} {P : Program} {G : Glob}

theorem extCount_sound {f : Nat} {fn : Func} (hf : P.funcs[f]? = some fn) (hname : (fn.name == "runtime.NumGoroutine") = false) (hb : fn.body.isNone = true)
    (hn : Extern.findNext fn = none) (he : Extern.find fn = some Extern.BytealgCount.count) {args : List V} {uargs : Array Value} {v : V} {m' : Mem} (hs : Sim K F r m w)
    (ha : VRs F r args uargs) (h : extCount args m = some (v, m')) : CallRes K P F r m w (callFunc f uargs) v m' := by
  unfold extCount at h
  split at h
  · rename_i s c
    split at h
    · rename_i n hn'
      cases h
      obtain ⟨us, uc, rfl, hvs, hvc⟩ := ha.two
      cases hvs with | str hb' =>
      rename_i b
      obtain ⟨k, rfl, hk⟩ := byteV_sound hn' hvc
      refine .inl ⟨.int .i64 (Lib.countByte b.data.toList k.toNat.toUInt8), w, F, r, ?_, hs, .refl .., ?_⟩
      · rw [run_callFunc_extern hf hname hb hn he, Lib.run_countString]; rfl
      · have := countOf_eq (c := k.toNat.toUInt8) b.data.toList 0
        rw [hb', hk] at this
        rw [this]; exact .int
    · cases h
  · cases h

end
end Go.Proofs.YtjjgiigbhjfkaaaGreatDoor.Am
