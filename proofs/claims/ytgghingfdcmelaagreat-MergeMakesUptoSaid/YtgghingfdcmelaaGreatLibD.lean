/-
  The interpreter of the model's code over values, and its soundness: part 4 of 4. No claim stands here.
-/
import Derived.Test.YtgghingfdcmelaaGreatLibC
set_option linter.unusedVariables false
set_option linter.unusedSimpArgs false
/-
  The same operations, each by itself: what the kernel unfolds stays small.
-/
namespace Go.Proofs.YtgghingfdcmelaaGreat
namespace Ab

def qPick (cx : Cx) (F : Fr) (o : Oper) (c a b : Operand) : Option AV := match (F.ev c).con with
  | some (.bool t) => some (if t then F.ev a else F.ev b)
  | _ => none
def qBinOp (cx : Cx) (F : Fr) (o : Oper) (op : BinOp) (t : TypeId) (x y : Operand) : Option AV := match op, (F.ev x).con, (F.ev y).con with
  | .eql, some (.agg xs), some (.agg ys) => if flatStruct cx.P t then (aggEq cx.P xs ys (match cx.P.underlying t with | some (.struct fs) => fs.toList | _ => [])).map .bool else none
  | .neq, some (.agg xs), some (.agg ys) => if flatStruct cx.P t then (aggEq cx.P xs ys (match cx.P.underlying t with | some (.struct fs) => fs.toList | _ => [])).map fun b => .bool (!b) else none
  | _, _, _ => conOp cx F o
def qLoad (cx : Cx) (F : Fr) (o : Oper) (t : TypeId) (a : Operand) : Option AV := match (F.ev a).cell, sizeT cx.P t, isAggT cx.P t with
  | some c, some n, some g => (F.loadL n c).bind (mkAV g)
  | _, _, _ => none
def qNilCheck (cx : Cx) (F : Fr) (o : Oper) (x : Operand) : Option AV := match (F.ev x).cell with
  | some (.ptr p) => some (.c (.ptr p))
  | some (.cptr row o) => some (.c (.cptr row o))
  | _ => none
def qFieldAddr (cx : Cx) (F : Fr) (o : Oper) (s : TypeId) (x : Operand) (f : Nat) : Option AV := match cx.P.underlying s, (F.ev x).cell with
  | some (.struct fields), some c => match fields[f]? with
    | some fd => match sizeT cx.P fd.type with
      | some (_ + 1) => (addrAdd fd.offset c).map .c
      | _ => none
    | none => none
  | _, _ => none
def qIndexAddr (cx : Cx) (F : Fr) (o : Oper) (t : TypeId) (x i : Operand) : Option AV := match cx.P.underlying t, (F.ev x).cell, asInt (F.ev i) with
  | some (.slice elem), some (.imm rows), some n => match rows[n.toNat]?, sizeT cx.P elem with
    | some row, some sz => if 0 ≤ n && row.length == sz then some (.c (.cptr row 0)) else none
    | _, _ => none
  | some (.slice elem), some (.ref p), some n => match F.get p, sizeT cx.P elem with
    | some (.own zz rows), some sz => if 0 ≤ n && n < rows.length && zz == sz then some (.c (.ptr ⟨p.toKey, n.toNat, 0⟩)) else none
    | _, _ => none
  | some (.array len elem), some c, some n => match sizeT cx.P elem with
    | some sz => if 0 ≤ n ∧ n < len then (addrAdd (n.toNat * sz) c).map .c else none
    | none => none
  | _, _, _ => none
def qField (cx : Cx) (F : Fr) (o : Oper) (s : TypeId) (x : Operand) (f : Nat) : Option AV := match cx.P.underlying s, F.ev x with
  | some (.struct fields), ⟨.agg, [l]⟩ => match fields[f]? with
    | some fd => match sizeT cx.P fd.type, isAggT cx.P fd.type with
      | some n, some g => if fd.offset + n ≤ l.length then mkAV g ((l.drop fd.offset).take n) else none
      | _, _ => none
    | none => none
  | _, _ => none
def qExtract (cx : Cx) (F : Fr) (o : Oper) (x : Operand) (i : Nat) : Option AV := match F.ev x with
  | ⟨.tup fl, rows⟩ => match fl[i]?, rows[i]? with
    | some g, some l => mkAV g l
    | _, _ => none
  | _ => none
def qLookup (cx : Cx) (F : Fr) (o : Oper) (t : TypeId) (x k : Operand) (ok : Bool) : Option AV := match cx.P.underlying t, (F.ev x).cell, (F.ev k).con with
  | some (.map kt elem), some (.ref p), some kv => match F.get p with
    | some (.mp es) => match mapFind cx.P kt kv es, isAggT cx.P elem, zeroT cx.P elem with
      | some r, some g, some z => match (match r with | some l => some l | none => if tagFits z.tag g then z.cells else none) with
        | some l => if !keyOkB cx.P kt kv || g != (l.length != 1) then none
          else if ok then some ⟨.tup [g, false], [l, [.val (.bool r.isSome)]]⟩ else mkAV g l
        | none => none
      | _, _, _ => none
    | _ => none
  | _, _, _ => none
def qLen (cx : Cx) (F : Fr) (o : Oper) (args : Array Operand) (argTypes : Array TypeId) : Option AV := match args[0]?, argTypes[0]? with
  | some x, some t => match cx.P.underlying t, (F.ev x).cell with
    | some (.slice _), some c => (F.look c).map fun rows => .int rows.length
    | some (.map _ _), some (.ref p) => match F.get p with
      | some (.mp es) => some (.int es.length)
      | _ => none
    | _, _ => conOp cx F o
  | _, _ => none
def qMakeFunc (cx : Cx) (F : Fr) (o : Oper) (f : Nat) (first caps : Array Operand) : Option AV :=
  let fs := first.toList.map fun x => (F.ev x).cell
  let cs := caps.toList.map fun x => (F.ev x).cell
  let good : Option Cell → Bool := fun c => match c with
    | some (.ptr p) => p.key.path.isEmpty
    | some (.val _) => true
    | _ => false
  if fs.all good && cs.all good then some (.c (.clo f (fs.map (·.getD .dead)) (cs.map (·.getD .dead)))) else none
def xquiet (cx : Cx) (F : Fr) (o : Oper) : Option AV := match o.op with
  | .move x => some (F.ev x)
  | .pick c a b => qPick cx F o c a b
  | .binOp op t x y _ => qBinOp cx F o op t x y
  | .unOp .. => conOp cx F o
  | .convert s t x => qConvert cx F o s t x
  | .makeInterface .. => conOp cx F o
  | .load t a => qLoad cx F o t a
  | .nilCheck x => qNilCheck cx F o x
  | .fieldAddr s x f => qFieldAddr cx F o s x f
  | .indexAddr t x i => qIndexAddr cx F o t x i
  | .index .. => conOp cx F o
  | .field s x f => qField cx F o s x f
  | .extract x i => qExtract cx F o x i
  | .lookup t x k ok => qLookup cx F o t x k ok
  | .call { callee := .builtin .len, args, argTypes } => qLen cx F o args argTypes
  | .call { callee := .builtin .max, .. } | .call { callee := .builtin .min, .. } => conOp cx F o
  | .makeFunc (.func f) first caps => qMakeFunc cx F o f first caps
  | _ => none
def lAssign (cx : Cx) (F : Fr) (o : Oper) (x : Operand) : Option Fr := match (F.ev x).cell, o.dst with
  | some (.ref p), some d =>
    if p.key.root = .slot d then (if p = ⟨⟨.slot d, []⟩, 0, 0⟩ then match F.slots[d]? with
        | some ⟨.one, [[c]]⟩ => if ownsC c then some F else none
        | _ => none
      else none)
    else if cx.temp p.key.root then match takeC cx F (.ref p) with
      | some (c, F') => some (F'.putS (some d) (.c c))
      | none => none
    else some (F.putS (some d) (.c (.ref p)))
  | some c, some d => some (F.putS (some d) (.c c))
  | none, some d => (takeV cx F (F.ev x)).map fun (v, F') => F'.putS (some d) v
  | _, none => none
def lStore (cx : Cx) (F : Fr) (o : Oper) (t : TypeId) (a x : Operand) : Option Fr := match o.dst, (F.ev a).cell, sizeT cx.P t, takeV cx F (F.ev x) with
  | none, some (.ptr p), some n, some (v, F') => match v.cells with
    | some l => if l.length = n && p.key.heap && (p.key.path.isEmpty || l.all pureC) then F'.setL p 0 l else none
    | none => none
  | _, _, _, _ => none
def lBuild (cx : Cx) (F : Fr) (o : Oper) (t : TypeId) (parts : Array (Nat × Operand)) : Option Fr := match zeroL cx.P t, placeOf cx.P t, takeParts cx F (parts.toList.map fun (i, x) => (i, F.ev x)) with
  | some l, some place, some (ps, F') => (fillP place l ps).map fun l' => F'.putS o.dst (.ag l')
  | _, _, _ => none
def lBuildSlice (cx : Cx) (F : Fr) (o : Oper) (t : TypeId) (len : Nat) (parts : Array (Nat × Operand)) : Option Fr := match cx.P.underlying t with
  | some (.slice elem) => match sizeT cx.P elem, zeroL cx.P elem, takeParts cx F (parts.toList.map fun (i, x) => (i, F.ev x)) with
    | some sz, some zl, some (ps, F') => if len * sz ≤ 16777216 && 0 < sz then
        match fillP (fun i => some (i * sz, sz)) (List.replicate len zl).flatten ps with
        | some l => if l.all pureC then some (F'.putS o.dst (.c (.own sz (chunk sz len l)))) else none
        | none => none
      else none
    | _, _, _ => none
  | _ => none
def lMakeSlice (cx : Cx) (F : Fr) (o : Oper) (t : TypeId) (l c : Operand) : Option Fr := match cx.P.underlying t, asInt (F.ev l), asInt (F.ev c) with
  | some (.slice elem), some n, some m => match sizeT cx.P elem, cx.P.info? elem, zeroL cx.P elem with
    | some sz, some i, some zl => if 0 ≤ n && n ≤ m && m * i.bytes ≤ 140737488355328 && m ≤ lim && 0 < sz then
          some (F.putS o.dst (.c (.own sz (List.replicate n.toNat zl)))) else none
    | _, _, _ => none
  | _, _, _ => none
def lMapUpdate (cx : Cx) (F : Fr) (o : Oper) (t : TypeId) (m k x : Operand) : Option Fr := match o.dst, cx.P.underlying t, (F.ev m).cell, (F.ev k).con, (F.ev x).cells with
  | none, some (.map kt _), some (.ref p), some kv, some l => match F.get p with
    | some (.mp es) => if keyOkB cx.P kt kv && (match (F.ev x).tag with | .one => l.length == 1 | _ => l.length != 1) && l.all (fun c => match c with | .val _ | .nil | .imm _ => true | _ => false) then
        (mapPut cx.P kt kv l es).bind fun es' => F.set p (.mp es') else none
    | _ => none
  | _, _, _, _, _ => none
def lSlice (cx : Cx) (F : Fr) (o : Oper) (t : TypeId) (x : Operand) (lo hi : Option Operand) : Option Fr := match cx.P.underlying t with
  | some (.slice elem) => match frzC F (((F.ev x).cell).getD .dead), sizeT cx.P elem with
    | some (rows, F'), some sz =>
      let l := match lo with | some y => asInt (F.ev y) | none => some 0
      let h := match hi with | some y => asInt (F.ev y) | none => some (rows.length : Int)
      match l, h with
      | some l, some h => if 0 ≤ l ∧ l ≤ h ∧ h ≤ rows.length ∧ (rows.head?.all (·.length == sz)) then some (F'.putS o.dst (.c (.imm ((rows.take h.toNat).drop l.toNat)))) else none
      | _, _ => none
    | _, _ => none
  | _ => (conOp cx F o).map (F.putS o.dst)
def lAppend (cx : Cx) (F : Fr) (o : Oper) (args : Array Operand) (argTypes : Array TypeId) : Option Fr := match args.toList, argTypes.toList, o.dst with
  | [s, x], [t, t1], some d => match cx.P.underlying t, cx.P.underlying t1, (F.ev s).cell, (F.ev x).cell with
    | some (.slice elem), some (.slice _), some .nil, some xc => match cx.P.info? elem with
      | some i => appendF cx F d elem i [] none xc
      | none => none
    | some (.slice elem), some (.slice _), some (.ref p), some xc => match F.get p, cx.P.info? elem, F.set p .dead with
      | some (.own zz rows), some i, some F1 => if zz = i.size then appendF cx (F1.kill p) d elem i rows (some p) xc else none
      | _, _, _ => none
    | _, _, _, _ => none
  | _, _, _ => none
def xloud (cx : Cx) (F : Fr) (o : Oper) : Option Fr := match o.op with
  | .assign x => lAssign cx F o x
  | .alloc t => match zeroL cx.P t with
    | some l => newBox F o.dst l
    | none => none
  | .box _ x => match takeV cx F (F.ev x) with
    | some (v, F') => v.cells.bind (newBox F' o.dst)
    | none => none
  | .store t a x => lStore cx F o t a x
  | .build t parts => lBuild cx F o t parts
  | .buildSlice t len parts => lBuildSlice cx F o t len parts
  | .makeSlice t l c => lMakeSlice cx F o t l c
  | .makeMap _ none => some (F.putS o.dst (.c (.mp [])))
  | .mapUpdate t m k x | .insert t m k x => lMapUpdate cx F o t m k x
  | .slice t x lo hi none => lSlice cx F o t x lo hi
  | .call { callee := .builtin .append, args, argTypes } => lAppend cx F o args argTypes
  | _ => none

theorem xquiet_eq (cx : Cx) (F : Fr) (o : Oper) : xquiet cx F o = quiet cx F o := by
  obtain ⟨dst, op, ty, pos, after, guard⟩ := o
  cases op with
  | call c =>
    obtain ⟨callee, args, argTypes⟩ := c
    cases callee with
    | builtin b => cases b <;> rfl
    | _ => rfl
  | makeFunc f a b => cases f <;> rfl
  | _ => rfl
theorem xloud_eq (cx : Cx) (F : Fr) (o : Oper) : xloud cx F o = loud cx F o := by
  obtain ⟨dst, op, ty, pos, after, guard⟩ := o
  cases op with
  | call c =>
    obtain ⟨callee, args, argTypes⟩ := c
    cases callee with
    | builtin b => cases b <;> rfl
    | _ => rfl
  | makeMap t r => cases r <;> rfl
  | slice t x lo hi mx => cases mx <;> rfl
  | _ => rfl
def aPanic (F : Fr) (x : Operand) : Option (Fr × Option Value) := match (F.ev x).con with
  | some (.iface t v) => some (F, some (.iface t v))
  | _ => none
def aCall (cx : Cx) (rec : Oracle) (F : Fr) (o : Oper) (g : Operand) (args : Array Operand) : Option (Fr × Option Value) := match (F.ev g).cell with
  | some (.clo f first caps) => callF cx rec F o.dst f (first.map .c ++ args.toList.map F.ev ++ caps.map .c)
  | _ => none
def xloud2 (cx : Cx) (rec : Oracle) (F : Fr) (o : Oper) : Option (Fr × Option Value) := match o.op with
  | .panic x => aPanic F x
  | .call { callee := .value g, args, .. } => aCall cx rec F o g args
  | _ => match xloud cx F o with
    | some F' => some (F', none)
    | none => none
theorem xloud2_eq (cx : Cx) (rec : Oracle) (F : Fr) (o : Oper) (h : quiet cx F o = none) : xloud2 cx rec F o = aop0 cx rec F o := by
  obtain ⟨dst, op, ty, pos, after, guard⟩ := o
  unfold aop0
  rw [h]
  simp only
  rw [← xloud_eq]
  cases op with
  | call c =>
    obtain ⟨callee, args, argTypes⟩ := c
    cases callee with
    | value g => rfl
    | builtin b => simp only [xloud2]; split <;> simp_all
    | _ => rfl
  | panic x => rfl
  | _ => simp only [xloud2]; split <;> simp_all
def xaop0 (cx : Cx) (rec : Oracle) (F : Fr) (o : Oper) : Option (Fr × Option Value) := match xquiet cx F o with
  | some v => some (F.putS o.dst v, none)
  | none => xloud2 cx rec F o
theorem xaop0_eq (cx : Cx) (rec : Oracle) (F : Fr) (o : Oper) : xaop0 cx rec F o = aop0 cx rec F o := by
  unfold xaop0
  rw [xquiet_eq]
  cases h : quiet cx F o with
  | none => exact xloud2_eq cx rec F o h
  | some v => unfold aop0; rw [h]
def xaop (cx : Cx) (rec : Oracle) (F : Fr) (o : Oper) : Option (Fr × Option Value) := match mvop cx F o with
  | some F' => some (F', none)
  | none => xaop0 cx rec F o
theorem xaop_eq (cx : Cx) (rec : Oracle) (F : Fr) (o : Oper) : xaop cx rec F o = aop cx rec F o := by
  unfold xaop aop
  rw [xaop0_eq]
  rfl
end Ab
end Go.Proofs.YtgghingfdcmelaaGreat

/-
  Definitions alone: the interpreter over cells that are not known: where it would have to look into one it takes what it is told, and lists what that asks.
-/
namespace Go.Proofs.YtgghingfdcmelaaGreat
namespace Ab

/-! a frame's outer parts, looked at one by one (the kernel then keeps them) -/
def forceP {α : Type} (p : Pl) (k : Pl → α) : α := match p with | ⟨⟨r, π⟩, a, b⟩ => k ⟨⟨r, π⟩, a, b⟩
def forceC {α : Type} (c : Cell) (k : Cell → α) : α := match c with
  | .val v => k (.val v) | .nil => k .nil | .imm r => k (.imm r) | .own z r => k (.own z r) | .mp e => k (.mp e)
  | .ptr p => forceP p fun p => k (.ptr p) | .cptr r o => k (.cptr r o) | .ref p => forceP p fun p => k (.ref p) | .clo f a b => k (.clo f a b) | .dead => k .dead
def forceR {α : Type} : List Cell → (List Cell → α) → α
  | [], k => k []
  | c :: l, k => forceC c fun c => forceR l fun l => k (c :: l)
def forceRs {α : Type} : List (List Cell) → (List (List Cell) → α) → α
  | [], k => k []
  | r :: l, k => forceR r fun r => forceRs l fun l => k (r :: l)
def forceT {α : Type} (t : Tag) (k : Tag → α) : α := match t with | .one => k .one | .agg => k .agg | .tup l => k (.tup l)
def forceV {α : Type} (v : AV) (k : AV → α) : α := match v with | ⟨t, rows⟩ => forceT t fun t => forceRs rows fun rows => k ⟨t, rows⟩
def forceVs {α : Type} : List AV → (List AV → α) → α
  | [], k => k []
  | v :: l, k => forceV v fun v => forceVs l fun l => k (v :: l)
def forceBs {α : Type} : List (Root × List Cell) → (List (Root × List Cell) → α) → α
  | [], k => k []
  | (r, b) :: l, k => forceR b fun b => forceBs l fun l => k ((r, b) :: l)
def forceF {α : Type} (F : Fr) (k : Fr → α) : α := match F with | ⟨s, b⟩ => forceVs s fun s => forceBs b fun b => k ⟨s, b⟩

theorem forceP_eq {α : Type} (p : Pl) (k : Pl → α) : forceP p k = k p := rfl
theorem forceC_eq {α : Type} (c : Cell) (k : Cell → α) : forceC c k = k c := by cases c <;> rfl
theorem forceR_eq {α : Type} : ∀ (l : List Cell) (k : List Cell → α), forceR l k = k l
  | [], _ => rfl
  | c :: l, k => by simp only [forceR, forceC_eq, forceR_eq l]
theorem forceRs_eq {α : Type} : ∀ (l : List (List Cell)) (k : List (List Cell) → α), forceRs l k = k l
  | [], _ => rfl
  | c :: l, k => by simp only [forceRs, forceR_eq, forceRs_eq l]
theorem forceV_eq {α : Type} (v : AV) (k : AV → α) : forceV v k = k v := by
  obtain ⟨t, rows⟩ := v
  simp only [forceV, forceRs_eq]
  cases t <;> rfl
theorem forceVs_eq {α : Type} : ∀ (l : List AV) (k : List AV → α), forceVs l k = k l
  | [], _ => rfl
  | c :: l, k => by simp only [forceVs, forceV_eq, forceVs_eq l]
theorem forceBs_eq {α : Type} : ∀ (l : List (Root × List Cell)) (k : List (Root × List Cell) → α), forceBs l k = k l
  | [], _ => rfl
  | (r, b) :: l, k => by simp only [forceBs, forceR_eq, forceBs_eq l]
theorem forceF_eq {α : Type} (F : Fr) (k : Fr → α) : forceF F k = k F := by
  obtain ⟨s, b⟩ := F
  simp only [forceF, forceVs_eq, forceBs_eq]

/-- a list looked at to its end (by the recursor itself: the kernel is quicker so). -/
noncomputable def spineK {α β : Type} (f : α → (α → β) → β) (l : List α) : (List α → β) → β :=
  List.rec (motive := fun _ => (List α → β) → β) (fun k => k []) (fun x _ ih k => f x fun x => ih fun l => k (x :: l)) l
theorem spineK_eq {α β : Type} {f : α → (α → β) → β} (hf : ∀ x k, f x k = k x) : ∀ (l : List α) (k : List α → β), spineK f l k = k l
  | [], k => rfl
  | x :: l, k => by
    show (f x fun x => spineK f l fun l => k (x :: l)) = _
    rw [hf, spineK_eq hf l]
theorem set_same {α : Type} : ∀ {l : List α} {d : Nat} {v : α}, l[d]? = some v → l.set d v = l
  | [], _, _, h => by simp at h
  | x :: l, 0, v, h => by simp at h; simp [h]
  | x :: l, d + 1, v, h => by simp at h; simp [set_same h]
def natK {α : Type} (m : Nat) (k : Nat → α) : α := match m with | 0 => k 0 | m + 1 => k (m + 1)
theorem natK_eq {α : Type} (m : Nat) (k : Nat → α) : natK m k = k m := by cases m <;> rfl
def forceI {α : Type} (i : Info) (k : Info → α) : α := match i with | ⟨w, r, s, c, a, b⟩ => natK a fun a => natK b fun b => k ⟨w, r, s, c, a, b⟩
theorem forceI_eq {α : Type} (i : Info) (k : Info → α) : forceI i k = k i := by simp only [forceI, natK_eq]
/-- a frame of which one temporary is new. -/
noncomputable def spF {α : Type} (d : Option Nat) (F : Fr) (k : Fr → α) : α := match F with
  | ⟨s, b⟩ => forceBs b fun b => match d with
    | none => spineK (fun x k => k x) s fun s => k ⟨s, b⟩
    | some d => match s[d]? with
      | some v => forceV v fun v => spineK (fun x k => k x) (s.set d v) fun s => k ⟨s, b⟩
      | none => spineK (fun x k => k x) s fun s => k ⟨s, b⟩
theorem spF_eq {α : Type} (d : Option Nat) (F : Fr) (k : Fr → α) : spF d F k = k F := by
  obtain ⟨s, b⟩ := F
  simp only [spF, forceBs_eq]
  cases d with
  | none => exact spineK_eq (fun _ _ => rfl) s _
  | some d =>
    simp only
    cases h : s[d]? with
    | none => exact spineK_eq (fun _ _ => rfl) s _
    | some v =>
      simp only [forceV_eq]
      rw [spineK_eq (fun _ _ => rfl), set_same h]

/-- what the interpreter is told of an operation. -/
inductive Adv where
  | test (r : Bool)
  | row (row : List Cell)
  | bnd
  | ld (row : List Cell)
  | look (r : Option (List Cell))
  | st
  | ok
  | okE (e : Bool)
  | okO (rows : List (List Cell)) (e : Bool)
  | put (es : List (Value × List Cell))
  | call (res : ARes) (bx : List (List Cell)) (thaw : Bool)
  | alt (p q : Nat)
  | ldm (l : List Cell)
  | callO (v : AV) (os : List (Nat × List (List Cell)))
abbrev Advs := List (Option Nat × Adv)

def tquiet (cx : Cx) (F : Fr) (o : Oper) : Adv → Option (AV × List Prop)
  | .test r => match xquiet cx F o with
    | some ⟨.one, [[.val (.bool b)]]⟩ => some (.bool r, [b = r])
    | _ => none
  | .row row => match o.op with
    | .indexAddr t x i => match cx.P.underlying t, (F.ev x).cell, asInt (F.ev i) with
      | some (.slice elem), some (.imm rows), some n => match sizeT cx.P elem with
        | some sz => some (.c (.cptr row 0), [0 ≤ n ∧ rows[n.toNat]? = some row ∧ row.length = sz])
        | none => none
      | _, _, _ => none
    | _ => none
  | .bnd => match o.op with
    | .indexAddr t x i => match cx.P.underlying t, (F.ev x).cell, asInt (F.ev i) with
      | some (.slice elem), some (.ref p), some n => match F.get p, sizeT cx.P elem with
        | some (.own zz rows), some sz => if zz = sz then some (.c (.ptr ⟨p.toKey, n.toNat, 0⟩), [0 ≤ n ∧ n < rows.length]) else none
        | _, _ => none
      | _, _, _ => none
    | _ => none
  | .ld row => match o.op with
    | .load t a => match (F.ev a).cell, sizeT cx.P t, isAggT cx.P t with
      | some (.ptr p), some n, some g => if p.key.heap && decide (p.o + n ≤ row.length) then match F.rowsAt p.key, mkAV g (viewRow p.key p.r p.o ((row.drop p.o).take n)) with
          | some rows, some v => some (v, [rows[p.r]? = some row])
          | _, _ => none
        else none
      | _, _, _ => none
    | _ => none
  | .look r => match o.op with
    | .lookup t x k ok => match cx.P.underlying t, (F.ev x).cell, (F.ev k).con with
      | some (.map kt elem), some (.ref p), some kv => match F.get p with
        | some (.mp es) => match isAggT cx.P elem, zeroT cx.P elem with
          | some g, some z => match (match r with | some l => some l | none => if tagFits z.tag g then z.cells else none) with
            | some l => if !keyOkB cx.P kt kv || g != (l.length != 1) then none
              else match (if ok then some ⟨.tup [g, false], [l, [.val (.bool r.isSome)]]⟩ else mkAV g l) with
                | some v => some (v, [mapFind cx.P kt kv es = some r])
                | none => none
            | none => none
          | _, _ => none
        | _ => none
      | _, _, _ => none
    | _ => none
  | _ => none

/-- cells laid at a place that is not known to be there. -/
def tset (F : Fr) (p : Pl) (c : Cell) : Option (Fr × Prop) := match F.rows p.key.root, F.rowsAt p.key with
  | some rows, some rs => match updR (fun _ => some (setRow rs p.r p.o c)) rows p.key.path with
    | some rows' => some (F.setRows p.key.root rows', ∃ c0, cellAt rs p.r p.o = some c0)
    | none => none
  | _, _ => none
def tsetL (F : Fr) (p : Pl) : Nat → List Cell → Option (Fr × List Prop)
  | _, [] => some (F, [])
  | j, c :: l => match tset (if ownsC c then F.kill { p with o := p.o + j } else F) { p with o := p.o + j } c with
    | some (F', q) => match tsetL F' p (j + 1) l with
      | some (F'', qs) => some (F'', q :: qs)
      | none => none
    | none => none

def appendCond (i : TypeInfo) (zl : Bool) (rows more : List (List Cell)) (p : Option Pl) (xc : Cell) : Bool :=
  (rows.length + more.length) * i.bytes ≤ 140737488355328 && rows.length + more.length ≤ lim && 0 < i.size && zl && more.head?.all (·.length == i.size) && apartB p xc
def tappend (cx : Cx) (F : Fr) (d : Nat) (elem : TypeId) (i : TypeInfo) (rows : List (List Cell)) (p : Option Pl) (xc : Cell) (e : Bool) : Option (Fr × List Prop) := match takeC cx F xc with
  | some (c, F2) => match moreOf c with
    | some more => some (F2.putS (some d) (.c (if p.isNone && e then .nil else .own i.size (rows ++ more))), [appendCond i (zeroL cx.P elem).isSome rows more p xc = true ∧ (p.isNone = true → more.isEmpty = e)])
    | none => none
  | none => none

/-- a slot that is dropped: the same, if what it held goes anyway. -/
def Fr.dropS (F : Fr) (k : Nat) : Fr := { F with slots := F.slots.set k .deadv }
def tloud (cx : Cx) (F : Fr) (o : Oper) : Adv → Option (Fr × List Prop)
  | .st => match o.op with
    | .store t a x => match o.dst, (F.ev a).cell, sizeT cx.P t, takeV cx F (F.ev x) with
      | none, some (.ptr p), some n, some (v, F') => match v.cells with
        | some l => if l.length = n && p.key.heap && (p.key.path.isEmpty || l.all pureC) then tsetL F' p 0 l else none
        | none => none
      | _, _, _, _ => none
    | _ => none
  | .okE e => match o.op with
    | .call { callee := .builtin .append, args, argTypes } => match args.toList, argTypes.toList, o.dst with
      | [s, x], [t, t1], some d => match cx.P.underlying t, cx.P.underlying t1, (F.ev s).cell, (F.ev x).cell with
        | some (.slice elem), some (.slice _), some .nil, some xc => match cx.P.info? elem with
          | some i => tappend cx F d elem i [] none xc e
          | none => none
        | some (.slice elem), some (.slice _), some (.ref p), some xc => match F.get p, cx.P.info? elem, F.set p .dead with
          | some (.own zz rows), some i, some F1 => if zz = i.size then tappend cx (F1.kill p) d elem i rows (some p) xc e else none
          | _, _, _ => none
        | _, _, _, _ => none
      | _, _, _ => none
    | _ => none
  | .okO rows0 e => match o.op with
    | .call { callee := .builtin .append, args, argTypes } => match args.toList, argTypes.toList, o.dst with
      | [.tmp k, x], [t, t1], some d => match cx.P.underlying t, cx.P.underlying t1, (F.ev (.tmp k)).cell, (F.ev x).cell with
        | some (.slice elem), some (.slice _), some (.ref p), some xc => match F.rowsAt p.key, cx.P.info? elem, tset F p .dead with
          | some rs, some i, some (F1, _) => match tappend cx ((F1.dropS k).kill p) d elem i rows0 (some p) xc e with
            | some (F2, ps) => some (F2, (cellAt rs p.r p.o = some (.own i.size rows0)) :: (F1.slots[k]? = some (.c (.ref p))) :: ps)
            | none => none
          | _, _, _ => none
        | _, _, _, _ => none
      | _, _, _ => none
    | _ => none
  | .ok => match o.op with
    | .makeSlice t l c => match cx.P.underlying t, asInt (F.ev l), asInt (F.ev c) with
      | some (.slice elem), some n, some m => match sizeT cx.P elem, cx.P.info? elem, zeroL cx.P elem with
        | some sz, some i, some zl => some (F.putS o.dst (.c (.own sz (List.replicate n.toNat zl))), [(0 ≤ n && n ≤ m && m * i.bytes ≤ 140737488355328 && m ≤ lim && 0 < sz) = true])
        | _, _, _ => none
      | _, _, _ => none
    | .slice t x lo hi none => match cx.P.underlying t with
      | some (.slice elem) => match frzC F (((F.ev x).cell).getD .dead), sizeT cx.P elem with
        | some (rows, F'), some sz =>
          match (match lo with | some y => asInt (F.ev y) | none => some 0), (match hi with | some y => asInt (F.ev y) | none => some (rows.length : Int)) with
          | some l, some h => some (F'.putS o.dst (.c (.imm ((rows.take h.toNat).drop l.toNat))), [0 ≤ l ∧ l ≤ h ∧ h ≤ rows.length ∧ (rows.head?.all (·.length == sz)) = true])
          | _, _ => none
        | _, _ => none
      | _ => none
    | _ => none
  | .put es' => match o.op with
    | .mapUpdate t m k x => match o.dst, cx.P.underlying t, (F.ev m).cell, (F.ev k).con, (F.ev x).cells with
      | none, some (.map kt _), some (.ref p), some kv, some l => match F.get p with
        | some (.mp es) => if keyOkB cx.P kt kv && (match (F.ev x).tag with | .one => l.length == 1 | _ => l.length != 1) && l.all (fun c => match c with | .val _ | .nil | .imm _ => true | _ => false) then
            match F.set p (.mp es') with
            | some F' => some (F', [mapPut cx.P kt kv l es = some es'])
            | none => none
          else none
        | _ => none
      | _, _, _, _, _ => none
    | _ => none
  | _ => none

/-- a call: in whatever memory. -/
def Ev (P : Program) (hand : Nat → Nat → Bool) (f : Nat) (args : List AV) (bx : List (List Cell)) (res : ARes) (bx' : List (List Cell)) : Prop :=
  (∃ fn, P.funcs[f]? = some fn ∧ fn.body.isSome = true ∧ (fn.name == "runtime.NumGoroutine") = false) ∧
    ∀ G w (Vs : Array Value), RelF G w ⟨args, parBoxes 0 bx⟩ Vs → Calls P f Vs w (Went G w res bx')

def noImmV (v : AV) : Bool := v.rows.all fun (l : List Cell) => l.all noImm
def tcallF (cx : Cx) (F : Fr) (dst : Option Nat) (f : Nat) (vs : List AV) (res : ARes) (bx' : List (List Cell)) (thaw : Bool) : Option (Fr × List Prop × Option Value) :=
  match handAll cx f F 0 vs with
  | some (vs1, F1) => match lendAll cx f F1 0 vs1 with
    | some (args, lent) =>
      let roots := closeRoots F1 3 (addRoots [] (args.flatMap fun v => v.rows.flatMap fun l => l.flatMap rootsC))
      match mapO (renV (idxOf roots)) args, mapO (boxOf F1 (idxOf roots)) roots with
      | some args', some bx => match mapO (mapO (renC (unIdx roots))) bx' with
          | some bx'' =>
            if lent.all (fun p => !roots.contains p.key.root) && bx'.length == roots.length && bx''.map List.length == bx.map List.length && nodupB roots then
              match freezeAll F1 lent with
              | some Ff => match res with
                | .panic v => some (putBoxes (killRs Ff roots) roots bx'', [Ev cx.P cx.hand f args' bx res bx'], some v)
                | .ret v => match renV (unIdx roots) v with
                  | some v' => some ((putBoxes (killRs (if thaw then F1 else Ff) roots) roots bx'').putK dst v',
                      Ev cx.P cx.hand f args' bx res bx' :: (if lent.isEmpty then [] else if roots.isEmpty then [noImmV v' = thaw] else [false = thaw]), none)
                  | none => none
              | none => none
            else none
          | none => none
      | _, _ => none
    | none => none
  | none => none

/-- what is lent out of rows that are not known, by what is told of them. -/
def tlendC (F : Fr) (c : Cell) (os : List (Nat × List (List Cell))) : Option (Cell × List Pl × List (Nat × List (List Cell)) × List Prop) := match c with
  | .ref p => match os with
    | (zz, rows) :: os => match F.rowsAt p.key with
      | some rs => some (.imm (immRs rows), [p], os, [cellAt rs p.r p.o = some (.own zz rows)])
      | none => none
    | [] => none
  | .nil => some (.imm [], [], os, [])
  | .dead => none
  | .ptr q => if q.key.path.isEmpty then some (.ptr q, [], os, []) else none
  | c => some (c, [], os, [])
def tlendL (F : Fr) : List Cell → List (Nat × List (List Cell)) → Option (List Cell × List Pl × List (Nat × List (List Cell)) × List Prop)
  | [], os => some ([], [], os, [])
  | c :: l, os => match tlendC F c os with
    | some (c', ps, os, qs) => match tlendL F l os with
      | some (l', ps', os, qs') => some (c' :: l', ps ++ ps', os, qs ++ qs')
      | none => none
    | none => none
def tlendV (F : Fr) (v : AV) (os : List (Nat × List (List Cell))) : Option (AV × List Pl × List (Nat × List (List Cell)) × List Prop) :=
  match v.tag, v.rows with
  | .one, [[x]] => match tlendC F x os with
    | some (c, ps, os, qs) => some (.c c, ps, os, qs)
    | none => none
  | .agg, [l] => match tlendL F l os with
    | some (l', ps, os, qs) => some (.ag l', ps, os, qs)
    | none => none
  | _, _ => none
def tlendAll (cx : Cx) (f : Nat) (F : Fr) : Nat → List AV → List (Nat × List (List Cell)) → Option (List AV × List Pl × List Prop)
  | _, [], _ => some ([], [], [])
  | j, v :: rest, os => if cx.hand f j then none else match tlendV F v os with
    | some (v', ps, os, qs) => match tlendAll cx f F (j + 1) rest os with
      | some (vs, ps', qs') => some (v' :: vs, ps ++ ps', qs ++ qs')
      | none => none
    | none => none
def tcallO (cx : Cx) (F : Fr) (dst : Option Nat) (f : Nat) (vs : List AV) (v : AV) (os : List (Nat × List (List Cell))) : Option (Fr × List Prop × Option Value) :=
  match tlendAll cx f F 0 vs os with
  | some (args, lent, qs) =>
    match closeRoots F 3 (addRoots [] (args.flatMap fun v => v.rows.flatMap fun l => l.flatMap rootsC)) with
    | [] => match mapO (renV (idxOf [])) args, renV (unIdx []) v with
      | some args', some v' => if v'.rows.all (fun (l : List Cell) => l.all noImm) then some (F.putK dst v', Ev cx.P cx.hand f args' [] (.ret v) [] :: qs, none) else none
      | _, _ => none
    | _ => none
  | none => none

/-- cells that move out of a row that is not known. -/
def tmvL (F : Fr) (K : Key) (r : Nat) : Nat → List Cell → Option (Fr × List Prop)
  | _, [] => some (F, [])
  | o, c :: l => match F.rowsAt K with
    | some rs => if pureC c then
        (if ownsC c then (match tset F ⟨K, r, o⟩ .dead with
          | some (F1, _) => match tmvL (F1.kill ⟨K, r, o⟩) K r (o + 1) l with
            | some (F2, ps) => some (F2, (cellAt rs r o = some c) :: ps)
            | none => none
          | none => none)
        else match tmvL F K r (o + 1) l with
          | some (F2, ps) => some (F2, (cellAt rs r o = some c) :: ps)
          | none => none)
      else none
    | none => none
def tmvop (cx : Cx) (F : Fr) (o : Oper) (l : List Cell) : Option (Fr × List Prop) := match cx.mv with
  | [] => none
  | ms => match o.op, o.dst with
    | .load t a, some d => if ms.contains d then (match (F.ev a).cell, sizeT cx.P t, isAggT cx.P t with
      | some (.ptr p), some n, some g => if p.key.heap && decide (n = l.length) then (match tmvL F p.key p.r p.o l, mkAV g l with
        | some (F1, ps), some v => some (F1.putS (some d) v, ps)
        | _, _ => none) else none
      | _, _, _ => none) else none
    | _, _ => none
def noMv (cx : Cx) (o : Oper) : Bool := match cx.mv with
  | [] => true
  | ms => match o.op, o.dst with
    | .load _ _, some d => !ms.contains d
    | _, _ => true
def noRec : Oracle := fun _ _ _ => none
/-- one operation, as it is told. -/
def taop (cx : Cx) (F : Fr) (o : Oper) : Option Adv → Option (Fr × List Prop × Option Value)
  | none => match xaop cx noRec F o with
    | some (F', r) => some (F', [], r)
    | none => none
  | some (.call res bx thaw) => match o.op with
    | .call { callee := .value g, args, .. } => match (F.ev g).cell with
      | some (.clo f first caps) => tcallF cx F o.dst f (first.map .c ++ args.toList.map F.ev ++ caps.map .c) res bx thaw
      | _ => none
    | _ => none
  | some (.callO v os) => match o.op with
    | .call { callee := .value g, args, .. } => match (F.ev g).cell with
      | some (.clo f first caps) => tcallO cx F o.dst f (first.map .c ++ args.toList.map F.ev ++ caps.map .c) v os
      | _ => none
    | _ => none
  | some (.ldm l) => match tmvop cx F o l with
    | some (F', ps) => some (F', ps, none)
    | none => none
  | some a => if !noMv cx o then none else match tquiet cx F o a with
    | some (v, ps) => some (F.putS o.dst v, ps, none)
    | none => if (xquiet cx F o).isNone then (match tloud cx F o a with
      | some (F', ps) => some (F', ps, none)
      | none => none) else none
/-- a call's temporary is no other operation's. -/
def callOk (o : Oper) (rest : List Oper) : Option Adv → Bool
  | some (.call _ _ _) => rest.all fun o' => o'.dst != o.dst
  | some (.callO _ _) => rest.all fun o' => o'.dst != o.dst
  | _ => true

/-- what is told next, if it is of this operation. -/
def nextAdv (d : Option Nat) : Advs → Option Adv × Advs
  | (d', a) :: l => if d' = d then (some a, l) else (none, (d', a) :: l)
  | [] => (none, [])

noncomputable def taops (cx : Cx) (ops : List Oper) : List Oper → Fr → Advs → Option (Fr × Advs × List Prop × Option Value)
  | [], F, ad => some (F, ad, [], none)
  | o :: rest, F, ad => match wantedA ops F o with
    | some true => match nextAdv o.dst ad with
      | (a, ad') => if callOk o rest a then (match taop cx F o a with
        | some (F', ps, none) => spF o.dst F' fun F' => match taops cx ops rest F' ad' with
          | some (F'', ad'', qs, r) => some (F'', ad'', ps ++ qs, r)
          | none => none
        | some (F', ps, some v) => some (F', ad', ps, some v)
        | none => none) else none
    | some false => spF o.dst (F.putS o.dst .undef) fun F' => taops cx ops rest F' ad
    | none => none

def tdop (cx : Cx) (ops : List Oper) (F : Fr) (o : Oper) (ad : Advs) : Option (Fr × Info × Advs × List Prop) := match wantedA ops F o with
  | none => none
  | some false => some (F.put o.dst .undef, mkInfo F (F.put o.dst .undef) (dstR o) (guardR ops o) false, ad, [])
  | some true => match nextAdv o.dst ad with
    | (none, ad') => match xquiet cx F o with
      | some v => some (F.put o.dst v, mkInfo F (F.put o.dst v) (dstR o) (guardR ops o ++ slotsOf o ++ (if looksIn o.op then viewRoots F o else [])) false, ad', [])
      | none => if closedB F (partW F o) then match xaop cx noRec (F.part (partW F o) (readsOf o)) o with
          | some (F1, none) => some (F.merge F1 (partW F o), mkInfo F (F.merge F1 (partW F o)) (partW F o) (guardR ops o ++ slotsOf o) true, ad', [])
          | _ => none
        else none
    | (some a, ad') => match tquiet cx F o a with
      | some (v, ps) => some (F.put o.dst v, mkInfo F (F.put o.dst v) (dstR o) (guardR ops o ++ slotsOf o ++ (if looksIn o.op then viewRoots F o else [])) false, ad', ps)
      | none => if (xquiet cx F o).isNone && closedB F (partW F o) then match taop cx (F.part (partW F o) (readsOf o)) o (some a) with
          | some (F1, ps, none) => some (F.merge F1 (partW F o), mkInfo F (F.merge F1 (partW F o)) (partW F o) (guardR ops o ++ slotsOf o) true, ad', ps)
          | _ => none
        else none
noncomputable def tdrun (cx : Cx) (ops : List Oper) : List Oper → Fr → Advs → Option (Fr × List Info × Advs × List Prop)
  | [], F, ad => some (F, [], ad, [])
  | o :: rest, F, ad => if !callOk o rest (nextAdv o.dst ad).1 then none else match tdop cx ops F o ad with
    | some (F1, i, ad1, ps) => spF o.dst F1 fun F1 => forceI i fun i => match tdrun cx ops rest F1 ad1 with
      | some (F2, is, ad2, qs) => some (F2, i :: is, ad2, ps ++ qs)
      | none => none
    | none => none
/-- one pair of operations in both orders: first the other one. -/
noncomputable def tadraw2 (cx : Cx) (ops : List Oper) (F : Fr) (p q : Nat) (ad : Advs) : Option (Fr × Advs × List Prop) := match tdrun cx ops (opsAt ops (altIdx p q ops.length)) F ad with
  | some (F2, is2, ad', qs) => match tdrun cx ops ops F ad' with
    | some (F1, is, ad'', ps) =>
      if ops.all noCallO && (edgesOk 0 ops && decide (p < q) && decide (q < ops.length) && exAll (befL ops []) p q [] ((List.range ops.length).zip is) && exAll (befL ops []) q p [] ((altIdx p q ops.length).zip is2)) then
        some (F1, ad'', (F2 = F1) :: (qs ++ ps)) else none
    | none => none
  | none => none
noncomputable def tadraw (cx : Cx) (ops : List Oper) (F : Fr) (ad : Advs) : Option (Fr × Advs × List Prop) := match ad with
  | (_, .alt p q) :: ad => tadraw2 cx ops F p q ad
  | ad => match tdrun cx ops ops F ad with
    | some (F', is, ad', ps) => if edgesOk 0 ops && checkFrom (befL ops []) is 0 is then some (F', ad', ps) else none
    | none => none

/-- what is still to be done. -/
inductive TItem where
  | code (c : Code)
  | inBlock (id : Nat)
  | inLoop (b : Code)

/-- where a stretch ends. -/
inductive TStop where
  | at (K : List TItem) (F : Fr)
  | fin (res : ARes) (bx : List (List Cell))

def texitTo (id : Nat) : List TItem → Option (List TItem)
  | [] => none
  | .inBlock id' :: K => if id' = id then some K else texitTo id K
  | _ :: K => texitTo id K

def tfin (P : Program) (fn : Func) (nb : Nat) (F : Fr) : Option TStop := match resAll P F fn.results.toList with
  | some (vs, F') => match resAV vs, outBoxes F' nb with
    | some v, some bx' => some (.fin (.ret v) bx')
    | _, _ => none
  | none => none

def addPs (ps : List Prop) : Option (TStop × List Prop) → Option (TStop × List Prop)
  | some (s, qs) => some (s, ps ++ qs)
  | none => none
/-- a stretch of so many steps, or to the end. -/
noncomputable def mgo (cx : Cx) (fn : Func) (nb : Nat) : Nat → List TItem → Fr → Advs → Option (TStop × List Prop)
  | 0, K, F, ad => match ad with
    | [] => some (.at K F, [])
    | _ => none
  | n + 1, K, F, ad => match K with
    | [] => match ad with
      | [] => match tfin cx.P fn nb F with
        | some s => some (s, [])
        | none => none
      | _ => none
    | .inLoop b :: K => match allocSet b with
      | [] => mgo cx fn nb n (.code b :: .inLoop b :: K) F ad
      | ls => forceF (F.norm [] ls) fun F => mgo cx fn nb n (.code b :: .inLoop b :: K) F ad
    | .inBlock _ :: K => mgo cx fn nb n K F ad
    | .code c :: K => match c with
      | .skip => mgo cx fn nb n K F ad
      | .region _ ops draw => if draw then (match tadraw cx ops.toList F ad with
          | some (F', ad', ps) => addPs ps (mgo cx fn nb n K F' ad')
          | none => none)
        else match taops cx ops.toList ops.toList F ad with
          | some (F', ad', ps, none) => addPs ps (mgo cx fn nb n K F' ad')
          | some (F', [], ps, some v) => match outBoxes F' nb with
            | some bx' => some (.fin (.panic v) bx', ps)
            | none => none
          | _ => none
      | .seq a b => mgo cx fn nb n (.code a :: .code b :: K) F ad
      | .cond c a b => match (F.ev c).con with
        | some (.bool true) => mgo cx fn nb n (.code a :: K) F ad
        | some (.bool false) => mgo cx fn nb n (.code b :: K) F ad
        | _ => none
      | .block id b => mgo cx fn nb n (.code b :: .inBlock id :: K) F ad
      | .loop b => mgo cx fn nb n (.inLoop b :: K) F ad
      | .exit id => match texitTo id K with
        | some K' => mgo cx fn nb n K' F ad
        | none => none
      | .ret => match ad with
        | [] => match tfin cx.P fn nb F with
          | some s => some (s, [])
          | none => none
        | _ => none
      | _ => none
end Ab
end Go.Proofs.YtgghingfdcmelaaGreat

/-
  What is told is so: then the stretch is the interpreter's.
-/
namespace Go.Proofs.YtgghingfdcmelaaGreat
namespace Ab

theorem ite_none_some {α : Type} {C : Prop} [Decidable C] {X : Option α} {y : α} (h : (if C then X else none) = some y) : C ∧ X = some y := by
  by_cases hc : C
  · rw [if_pos hc] at h; exact ⟨hc, h⟩
  · rw [if_neg hc] at h; cases h
theorem aop_noRec {cx : Cx} {F : Fr} {o : Oper} {r : Fr × Option Value} (rec : Oracle) (e : aop cx noRec F o = some r) : aop cx rec F o = some r := by
  unfold aop at *
  cases hm : mvop cx F o with
  | some F1 => rw [hm] at e; exact e
  | none =>
  rw [hm] at e
  simp only at *
  unfold aop0 at *
  cases hq : quiet cx F o with
  | some v => rw [hq] at e; exact e
  | none =>
    rw [hq] at e
    simp only at *
    cases hl : loud cx F o with
    | some F1 => rw [hl] at e; exact e
    | none =>
      rw [hl] at e
      simp only at *
      split at e
      · exact e
      · split at e
        · obtain ⟨_, _, _, h⟩ := callF_fn e
          cases h
        · cases e
      · cases e
theorem noMv_eq {cx : Cx} {o : Oper} (h : noMv cx o = true) (F : Fr) : mvop cx F o = none := by
  unfold noMv at h
  unfold mvop
  split at h
  · rename_i hm
    rw [hm]
  · split
    · rfl
    · split
      · rename_i t a d hop hd
        rw [hop, hd] at h
        simp only [Bool.not_eq_true'] at h
        rw [if_neg (by rw [h]; simp)]
      · rfl

theorem tquiet_sound {cx : Cx} {F : Fr} {o : Oper} {a : Adv} {v : AV} {ps : List Prop} (e : tquiet cx F o a = some (v, ps)) (hp : ∀ p ∈ ps, p) : quiet cx F o = some v := by
  cases a with
  | test r =>
    simp only [tquiet, xquiet_eq] at e
    split at e
    · rename_i b hq
      simp only [Option.some.injEq, Prod.mk.injEq] at e
      obtain ⟨rfl, rfl⟩ := e
      have : b = r := hp _ (by simp)
      subst this
      exact hq
    · cases e
  | row row =>
    obtain ⟨dst, op, ty, pos, after, guard⟩ := o
    simp only [tquiet] at e
    split at e
    · rename_i t x i
      split at e
      · rename_i elem rows n hu hc hn
        split at e
        · rename_i sz hs
          simp only [Option.some.injEq, Prod.mk.injEq] at e
          obtain ⟨rfl, rfl⟩ := e
          obtain ⟨h1, h2, h3⟩ := hp _ List.mem_cons_self
          simp only [quiet, hu, hc, hn, hs, h2, h3, h1, decide_true, beq_self_eq_true, Bool.and_self, if_true]
        · cases e
      · cases e
    · cases e
  | bnd =>
    obtain ⟨dst, op, ty, pos, after, guard⟩ := o
    simp only [tquiet] at e
    split at e
    · rename_i t x i
      split at e
      · rename_i elem p n hu hc hn
        split at e
        · rename_i zz rows sz hg hs
          split at e
          · rename_i hz
            simp only [Option.some.injEq, Prod.mk.injEq] at e
            obtain ⟨rfl, rfl⟩ := e
            obtain ⟨h1, h2⟩ := hp _ List.mem_cons_self
            simp only [quiet, hu, hc, hn, hs, hg, h1, h2, hz, decide_true, beq_self_eq_true, Bool.and_self, if_true]
          · cases e
        · cases e
      · cases e
    · cases e
  | ld row =>
    obtain ⟨dst, op, ty, pos, after, guard⟩ := o
    simp only [tquiet] at e
    split at e
    · rename_i t a
      split at e
      · rename_i p n g hc hs hg
        split at e
        · rename_i hcond
          simp only [Bool.and_eq_true, decide_eq_true_eq] at hcond
          split at e
          · rename_i rows v' hr hm
            simp only [Option.some.injEq, Prod.mk.injEq] at e
            obtain ⟨rfl, rfl⟩ := e
            have h1 := hp _ List.mem_cons_self
            simp only [quiet, hc, hs, hg, Fr.loadL, hcond.1, Bool.not_true, Bool.false_eq_true, if_false, hr, h1, hcond.2, if_true, Option.bind_some]
            exact hm
          · cases e
        · cases e
      · cases e
    · cases e
  | look r =>
    obtain ⟨dst, op, ty, pos, after, guard⟩ := o
    simp only [tquiet] at e
    split at e
    · rename_i t x k ok
      split at e
      · rename_i kt elem p kv hu hc hk
        split at e
        · rename_i es hg
          split at e
          · rename_i g z hgg hz
            split at e
            · rename_i l hl
              split at e
              · cases e
              · rename_i hcond
                split at e
                · rename_i v' hv
                  simp only [Option.some.injEq, Prod.mk.injEq] at e
                  obtain ⟨rfl, rfl⟩ := e
                  have h1 := hp _ List.mem_cons_self
                  simp only [quiet, hu, hc, hk, hg, hgg, hz, h1]
                  cases r with
                  | none =>
                    simp only at hl ⊢
                    rw [hl]
                    simp only
                    rw [if_neg hcond]
                    exact hv
                  | some l0 =>
                    simp only [Option.some.injEq] at hl
                    subst hl
                    simp only
                    rw [if_neg hcond]
                    exact hv
                · cases e
            · cases e
          · cases e
        · cases e
      · cases e
    · cases e
  | _ => simp [tquiet] at e

theorem updR_congr {f g : List (List Cell) → Option (List (List Cell))} : ∀ {π : List (Nat × Nat)} {rows rs : List (List Cell)}, getR rows π = some rs → f rs = g rs → updR f rows π = updR g rows π
  | [], rows, rs, h, e => by
    simp only [getR, Option.some.injEq] at h
    subst h
    exact e
  | (r, o) :: π, rows, rs, h, e => by
    simp only [getR] at h
    simp only [updR]
    split at h
    · rename_i rows' hc
      rw [updR_congr h e]
    · cases h

theorem tset_sound {F F' : Fr} {p : Pl} {c : Cell} {q : Prop} (e : tset F p c = some (F', q)) (hq : q) : F.set p c = some F' := by
  unfold tset at e
  split at e
  · rename_i rows rs hr hrs
    split at e
    · rename_i rows' hu
      simp only [Option.some.injEq, Prod.mk.injEq] at e
      obtain ⟨rfl, rfl⟩ := e
      unfold Fr.set
      rw [hr]
      simp only
      have hg : getR rows p.key.path = some rs := by unfold Fr.rowsAt at hrs; rw [hr] at hrs; exact hrs
      obtain ⟨c0, hc0⟩ := hq
      rw [updR_congr (g := fun _ => some (setRow rs p.r p.o c)) hg (by simp only [putAt, hc0]), hu]
    · cases e
  · cases e
theorem tsetL_sound {p : Pl} : ∀ {l : List Cell} {j : Nat} {F F' : Fr} {ps : List Prop}, tsetL F p j l = some (F', ps) → (∀ q ∈ ps, q) → F.setL p j l = some F'
  | [], j, F, F', ps, e, _ => by
    simp only [tsetL, Option.some.injEq, Prod.mk.injEq] at e
    obtain ⟨rfl, _⟩ := e
    rfl
  | c :: l, j, F, F', ps, e, hp => by
    simp only [tsetL] at e
    cases h1 : tset (if ownsC c then F.kill { p with o := p.o + j } else F) { p with o := p.o + j } c with
    | none => simp [h1] at e
    | some y =>
      obtain ⟨F1, q⟩ := y
      simp only [h1] at e
      cases h2 : tsetL F1 p (j + 1) l with
      | none => simp [h2] at e
      | some z =>
        obtain ⟨F2, qs⟩ := z
        simp only [h2, Option.some.injEq, Prod.mk.injEq] at e
        obtain ⟨rfl, rfl⟩ := e
        simp only [Fr.setL, tset_sound h1 (hp q List.mem_cons_self)]
        exact tsetL_sound h2 (fun x hx => hp x (List.mem_cons_of_mem _ hx))

theorem tappend_sound {cx : Cx} {F F' : Fr} {d : Nat} {elem : TypeId} {i : TypeInfo} {rows : List (List Cell)} {p : Option Pl} {xc : Cell} {e0 : Bool} {ps : List Prop}
    (e : tappend cx F d elem i rows p xc e0 = some (F', ps)) (hp : ∀ q ∈ ps, q) : appendF cx F d elem i rows p xc = some F' := by
  unfold tappend at e
  unfold appendF
  split at e
  · rename_i c F2 ht
    rw [ht]
    simp only
    split at e
    · rename_i more hm
      simp only [Option.some.injEq, Prod.mk.injEq] at e
      obtain ⟨rfl, rfl⟩ := e
      rw [hm]
      simp only
      obtain ⟨h1, h2⟩ := hp _ List.mem_cons_self
      unfold appendCond at h1
      rw [if_pos h1]
      cases p with
      | none => rw [h2 rfl]
      | some p => rfl
    · cases e
  · cases e

theorem tmvL_sound {K : Key} {r : Nat} : ∀ {l : List Cell} {o : Nat} {F F' : Fr} {ps : List Prop}, tmvL F K r o l = some (F', ps) → (∀ q ∈ ps, q) → mvL F K r o l.length = some (l, F')
  | [], o, F, F', ps, e, _ => by
    simp only [tmvL, Option.some.injEq, Prod.mk.injEq] at e
    obtain ⟨rfl, _⟩ := e
    rfl
  | c :: l, o, F, F', ps, e, hp => by
    simp only [tmvL] at e
    cases hr : F.rowsAt K with
    | none => simp [hr] at e
    | some rs =>
      simp only [hr] at e
      obtain ⟨hpu, e⟩ := ite_none_some e
      by_cases ho : ownsC c = true
      · rw [if_pos ho] at e
        cases h1 : tset F ⟨K, r, o⟩ .dead with
        | none => simp [h1] at e
        | some y =>
          obtain ⟨F1, q⟩ := y
          simp only [h1] at e
          cases h2 : tmvL (F1.kill ⟨K, r, o⟩) K r (o + 1) l with
          | none => simp [h2] at e
          | some z =>
            obtain ⟨F2, qs⟩ := z
            simp only [h2, Option.some.injEq, Prod.mk.injEq] at e
            obtain ⟨rfl, rfl⟩ := e
            have hc := hp _ List.mem_cons_self
            have hg : F.get ⟨K, r, o⟩ = some c := by unfold Fr.get; simp only [hr, Option.bind_some, hc]
            have hq : q := by
              unfold tset at h1
              split at h1
              · rename_i rr rs' hrr hrs
                split at h1
                · simp only [Option.some.injEq, Prod.mk.injEq] at h1
                  obtain ⟨_, rfl⟩ := h1
                  simp only at hrs
                  rw [hr] at hrs
                  cases hrs
                  exact ⟨_, hc⟩
                · cases h1
              · cases h1
            have hs := tset_sound h1 hq
            simp only [List.length_cons, mvL, mvC, hg, hpu, ho, if_true, hs, Option.map_some, tmvL_sound h2 (fun q hq => hp q (List.mem_cons_of_mem _ hq))]
      · rw [if_neg ho] at e
        cases h2 : tmvL F K r (o + 1) l with
        | none => simp [h2] at e
        | some z =>
          obtain ⟨F2, qs⟩ := z
          simp only [h2, Option.some.injEq, Prod.mk.injEq] at e
          obtain ⟨rfl, rfl⟩ := e
          have hc := hp _ List.mem_cons_self
          have hg : F.get ⟨K, r, o⟩ = some c := by unfold Fr.get; simp only [hr, Option.bind_some, hc]
          simp only [List.length_cons, mvL, mvC, hg, hpu, if_true, if_neg ho, tmvL_sound h2 (fun q hq => hp q (List.mem_cons_of_mem _ hq))]
theorem tmvop_sound {cx : Cx} {F F' : Fr} {o : Oper} {l : List Cell} {ps : List Prop} (e : tmvop cx F o l = some (F', ps)) (hp : ∀ q ∈ ps, q) : mvop cx F o = some F' := by
  unfold tmvop at e
  unfold mvop
  split at e
  · cases e
  · rename_i ms hms
    split
    · rename_i h0; exact absurd h0 hms
    split at e
    · rename_i t x d hop hd
      rw [hop, hd]
      try simp only
      obtain ⟨hc, e⟩ := ite_none_some e
      rw [if_pos hc]
      split at e
      · rename_i p n g h1 h2 h3
        rw [h1, h2, h3]
        try simp only
        have hx := ite_none_some e
        clear e
        obtain ⟨hc2, e⟩ := hx
        simp only [Bool.and_eq_true, decide_eq_true_eq] at hc2
        obtain ⟨hh, rfl⟩ := hc2
        rw [if_neg (by simp [hh])]
        cases h4 : tmvL F p.key p.r p.o l with
        | none => simp [h4] at e
        | some y =>
          obtain ⟨F1, qs⟩ := y
          cases h5 : mkAV g l with
          | none => simp [h4, h5] at e
          | some v =>
            simp only [h4, h5, Option.some.injEq, Prod.mk.injEq] at e
            obtain ⟨rfl, rfl⟩ := e
            rw [tmvL_sound h4 hp]
            show (mkAV g l).map _ = _
            rw [h5]
            rfl
      · cases e
    · cases e

theorem dropS_kill {F : Fr} {k : Nat} {p : Pl} (h : F.slots[k]? = some (.c (.ref p))) : (F.dropS k).kill p = F.kill p := by
  have hu : under p p.toKey = true := by simp [under, Pl.toKey]
  have e1 : (AV.c (.ref p)).mapC (killC p) = .deadv := by simp [AV.mapC, AV.c, AV.deadv, killC, hu]
  have e2 : AV.deadv.mapC (killC p) = .deadv := by simp [AV.mapC, AV.c, AV.deadv, killC]
  have e3 : (F.slots.set k .deadv).map (·.mapC (killC p)) = F.slots.map (·.mapC (killC p)) := by
    apply List.ext_getElem?
    intro j
    rw [List.getElem?_map, List.getElem?_map, List.getElem?_set]
    by_cases hj : k = j
    · subst hj
      have hlt := (List.getElem?_eq_some_iff.1 h).1
      rw [if_pos rfl, if_pos hlt, h]
      simp only [Option.map_some, e1, e2]
    · rw [if_neg hj]
  simp only [Fr.dropS, Fr.kill, Fr.mapC, e3]

theorem tloud_sound {cx : Cx} {F F' : Fr} {o : Oper} {a : Adv} {ps : List Prop} (e : tloud cx F o a = some (F', ps)) (hp : ∀ p ∈ ps, p) : loud cx F o = some F' := by
  obtain ⟨dst, op, ty, pos, after, guard⟩ := o
  cases a with
  | st =>
    simp only [tloud] at e
    split at e
    · rename_i t x y
      unfold loud
      simp only at e ⊢
      split at e
      · rename_i p n v F1 hd hs ht
        rw [hd, hs, ht]
        simp only
        split at e
        · rename_i l hl
          rw [hl]
          simp only
          split at e
          · rename_i hc
            rw [if_pos hc]
            exact tsetL_sound e hp
          · cases e
        · cases e
      · cases e
    · cases e
  | okE e0 =>
    simp only [tloud] at e
    split at e
    · rename_i args argTypes
      unfold loud
      simp only at e ⊢
      split at e
      · rename_i s x t t1 d h1 h2
        rw [h1, h2]
        simp only
        split at e
        · rename_i elem xc xt a1 a2 a3 a4
          rw [a1, a2, a3, a4]
          simp only
          split at e
          · rename_i i hi
            rw [hi]
            exact tappend_sound e hp
          · cases e
        · rename_i elem p xc xt a1 a2 a3 a4
          rw [a1, a2, a3, a4]
          simp only
          split at e
          · rename_i zz rows i F1 b1 b2 b3
            rw [b1, b2, b3]
            simp only
            split at e
            · rename_i hz
              rw [if_pos hz]
              exact tappend_sound e hp
            · cases e
          · cases e
        · cases e
      · cases e
    · cases e
  | okO rows0 e0 =>
    simp only [tloud] at e
    split at e
    · rename_i args argTypes
      unfold loud
      simp only at e ⊢
      split at e
      · rename_i s x t t1 d h1 h2
        rw [h1, h2]
        simp only
        split at e
        · rename_i elem et p xc a1 a2 a3 a4
          rw [a1, a2, a3, a4]
          simp only
          split at e
          · rename_i rs i F1 q b1 b2 b3
            split at e
            · rename_i F2 qs b4
              simp only [Option.some.injEq, Prod.mk.injEq] at e
              obtain ⟨rfl, rfl⟩ := e
              have hc := hp _ List.mem_cons_self
              have hk := hp _ (List.mem_cons_of_mem _ List.mem_cons_self)
              rw [dropS_kill hk] at b4
              have hg : F.get p = some (.own i.size rows0) := by unfold Fr.get; rw [b1]; exact hc
              have hs : F.set p .dead = some F1 := by
                have hq : q := by
                  unfold tset at b3
                  split at b3
                  · rename_i rr rs' hr hrs
                    split at b3
                    · simp only [Option.some.injEq, Prod.mk.injEq] at b3
                      obtain ⟨_, rfl⟩ := b3
                      rw [b1] at hrs
                      cases hrs
                      exact ⟨_, hc⟩
                    · cases b3
                  · cases b3
                exact tset_sound b3 hq
              rw [hg, b2, hs]
              simp only [if_true]
              exact tappend_sound b4 (fun x hx => hp x (List.mem_cons_of_mem _ (List.mem_cons_of_mem _ hx)))
            · cases e
          · cases e
        · cases e
      · cases e
    · cases e
  | ok =>
    simp only [tloud] at e
    split at e
    · rename_i t l c
      unfold loud
      simp only at e ⊢
      split at e
      · rename_i elem n m h1 h2 h3
        rw [h1, h2, h3]
        simp only
        split at e
        · rename_i sz i zl b1 b2 b3
          rw [b1, b2, b3]
          simp only [Option.some.injEq, Prod.mk.injEq] at e ⊢
          obtain ⟨rfl, rfl⟩ := e
          rw [if_pos (hp _ List.mem_cons_self)]
        · cases e
      · cases e
    · rename_i t x lo hi
      unfold loud
      simp only at e ⊢
      split at e
      · rename_i elem hu
        rw [hu]
        simp only
        split at e
        · rename_i rows F1 sz h1 h2
          rw [h1, h2]
          simp only
          split at e
          · rename_i l h k1 k2
            simp only [Option.some.injEq, Prod.mk.injEq] at e
            obtain ⟨rfl, rfl⟩ := e
            have hc := hp _ List.mem_cons_self
            cases lo with
            | none =>
              simp only [Option.some.injEq] at k1
              subst k1
              cases hi with
              | none =>
                simp only [Option.some.injEq] at k2
                subst k2
                simp only
                rw [if_pos hc]
              | some y =>
                simp only at k2
                simp only [k2]
                rw [if_pos hc]
            | some x =>
              simp only at k1
              cases hi with
              | none =>
                simp only [Option.some.injEq] at k2
                subst k2
                simp only [k1]
                rw [if_pos hc]
              | some y =>
                simp only at k2
                simp only [k1, k2]
                rw [if_pos hc]
          · cases e
        · cases e
      · cases e
    · cases e
  | put es' =>
    simp only [tloud] at e
    split at e
    · rename_i t m k x
      unfold loud
      simp only at e ⊢
      split at e
      · rename_i kt elem p kv l h1 h2 h3 h4
        rw [h1, h2, h3, h4]
        simp only
        split at e
        · rename_i es hg
          rw [hg]
          simp only
          obtain ⟨hc, e⟩ := ite_none_some e
          refine (if_pos hc).trans ?_
          split at e
          · rename_i F1 hs
            simp only [Option.some.injEq, Prod.mk.injEq] at e
            obtain ⟨rfl, rfl⟩ := e
            rw [hp _ List.mem_cons_self]
            exact hs
          · cases e
        · cases e
      · cases e
    · cases e
  | _ => simp [tloud] at e

/-- an oracle that knows one call. -/
noncomputable def oneRec (f : Nat) (args : List AV) (bx : List (List Cell)) (res : ARes) (bx' : List (List Cell)) : Oracle :=
  fun f' args' bx1 => open Classical in if f' = f ∧ args' = args ∧ bx1 = bx then some (res, bx') else none
theorem oneRec_sound {P : Program} {hand : Nat → Nat → Bool} {f : Nat} {args : List AV} {bx : List (List Cell)} {res : ARes} {bx' : List (List Cell)} (h : Ev P hand f args bx res bx') :
    RecSound P (oneRec f args bx res bx') ∧ RecFn P (oneRec f args bx res bx') := by
  constructor
  · intro f1 args1 bx1 res1 bx1' e
    unfold oneRec at e
    split at e
    · rename_i hc
      obtain ⟨rfl, rfl, rfl⟩ := hc
      simp only [Option.some.injEq, Prod.mk.injEq] at e
      obtain ⟨rfl, rfl⟩ := e
      exact h.2
    · cases e
  · intro f1 args1 bx1 r e
    unfold oneRec at e
    split at e
    · rename_i hc
      obtain ⟨rfl, rfl, rfl⟩ := hc
      exact h.1
    · cases e
theorem oneRec_self (f : Nat) (args : List AV) (bx : List (List Cell)) (res : ARes) (bx' : List (List Cell)) : oneRec f args bx res bx' f args bx = some (res, bx') := by
  unfold oneRec
  rw [if_pos ⟨rfl, rfl, rfl⟩]
/-- what is told of calls holds. -/
def RecOk (P : Program) (rec : Oracle) : Prop := RecSound P rec ∧ RecFn P rec
theorem noRec_ok (P : Program) : RecOk P noRec := ⟨fun _ _ _ _ _ e => (by cases e), fun _ _ _ _ e => (by cases e)⟩

theorem tcallF_sound {cx : Cx} {F F' : Fr} {dst : Option Nat} {f : Nat} {vs : List AV} {res : ARes} {bx' : List (List Cell)} {thaw : Bool} {ps : List Prop} {r : Option Value}
    (e : tcallF cx F dst f vs res bx' thaw = some (F', ps, r)) (hp : ∀ p ∈ ps, p) : ∃ rec, RecOk cx.P rec ∧ callF cx rec F dst f vs = some (F', r) := by
  unfold tcallF at e
  split at e
  · rename_i vs1 F1 h1
    split at e
    · rename_i args lent h2
      simp only at e
      split at e
      · rename_i args' bx h3 h4
        split at e
        · rename_i bx'' h5
          split at e
          · rename_i hc
            split at e
            · rename_i Ff h6
              split at e
              · rename_i v
                simp only [Option.some.injEq, Prod.mk.injEq] at e
                obtain ⟨rfl, rfl, rfl⟩ := e
                have he : Ev cx.P cx.hand f args' bx (.panic v) bx' := hp _ List.mem_cons_self
                refine ⟨_, oneRec_sound he, ?_⟩
                unfold callF
                rw [h1]
                simp only
                rw [h2]
                simp only
                rw [h3, h4]
                simp only
                rw [oneRec_self]
                simp only
                rw [h5]
                simp only
                rw [if_pos hc, h6]
              · rename_i v
                split at e
                · rename_i v' h7
                  simp only [Option.some.injEq, Prod.mk.injEq] at e
                  obtain ⟨rfl, rfl, rfl⟩ := e
                  have he : Ev cx.P cx.hand f args' bx (.ret v) bx' := hp _ List.mem_cons_self
                  have ht : (if ((closeRoots F1 3 (addRoots [] (args.flatMap fun v => v.rows.flatMap fun l => l.flatMap rootsC))).isEmpty && v'.rows.all (fun (l : List Cell) => l.all noImm)) = true then F1 else Ff) = if thaw then F1 else Ff := by
                    by_cases hl : lent = []
                    · subst hl
                      simp only [freezeAll, Option.some.injEq] at h6
                      subst h6
                      simp
                    · have hl' : lent.isEmpty = false := by cases lent <;> simp_all
                      rw [hl'] at hp
                      by_cases hr : (closeRoots F1 3 (addRoots [] (args.flatMap fun v => v.rows.flatMap fun l => l.flatMap rootsC))).isEmpty = true
                      · rw [hr] at hp ⊢
                        have : noImmV v' = thaw := hp _ (by simp)
                        show (if (true && noImmV v') = true then F1 else Ff) = _
                        rw [Bool.true_and, this]
                      · have hr' : (closeRoots F1 3 (addRoots [] (args.flatMap fun v => v.rows.flatMap fun l => l.flatMap rootsC))).isEmpty = false := by simpa using hr
                        rw [hr'] at hp ⊢
                        have : false = thaw := hp _ (by simp)
                        rw [← this]
                        simp
                  refine ⟨_, oneRec_sound he, ?_⟩
                  unfold callF
                  rw [h1]
                  simp only
                  rw [h2]
                  simp only
                  rw [h3, h4]
                  simp only
                  rw [oneRec_self]
                  simp only
                  rw [h5]
                  simp only
                  rw [if_pos hc, h6]
                  simp only
                  rw [h7]
                  simp only
                  rw [ht]
                · cases e
            · cases e
          · cases e
        · cases e
      · cases e
    · cases e
  · cases e

theorem freezeAll_some : ∀ (ps : List Pl) (F : Fr), ∃ Ff, freezeAll F ps = some Ff
  | [], F => ⟨F, rfl⟩
  | p :: ps, F => by
    simp only [freezeAll]
    split
    · rename_i zz rows hg
      obtain ⟨F1, h1⟩ := Fr.set_of_get hg (.imm (immRs rows))
      rw [h1]
      exact freezeAll_some ps F1
    · exact freezeAll_some ps F
theorem tlendC_sound {F : Fr} {c c' : Cell} {os os' : List (Nat × List (List Cell))} {ps : List Pl} {qs : List Prop} (e : tlendC F c os = some (c', ps, os', qs)) (hq : ∀ q ∈ qs, q) : lendC F c = some (c', ps) := by
  cases c with
  | ref p =>
    simp only [tlendC] at e
    split at e
    · split at e
      · rename_i zz rows os1 _ rs hrs
        simp only [Option.some.injEq, Prod.mk.injEq] at e
        obtain ⟨rfl, rfl, rfl, rfl⟩ := e
        have hc := hq _ List.mem_cons_self
        have hg : F.get p = some (.own zz rows) := by unfold Fr.get; simp only [hrs, Option.bind_some, hc]
        simp only [lendC, hg]
      · cases e
    · cases e
  | ptr q =>
    simp only [tlendC] at e
    obtain ⟨hc, e⟩ := ite_none_some e
    simp only [Option.some.injEq, Prod.mk.injEq] at e
    obtain ⟨rfl, rfl, _⟩ := e
    simp only [lendC, hc, if_true]
  | dead => cases e
  | _ =>
    simp only [tlendC, Option.some.injEq, Prod.mk.injEq] at e
    obtain ⟨rfl, rfl, _⟩ := e
    rfl
theorem tlendL_sound {F : Fr} : ∀ {l l' : List Cell} {os os' : List (Nat × List (List Cell))} {ps : List Pl} {qs : List Prop}, tlendL F l os = some (l', ps, os', qs) → (∀ q ∈ qs, q) → lendL F l = some (l', ps)
  | [], l', os, os', ps, qs, e, _ => by
    simp only [tlendL, Option.some.injEq, Prod.mk.injEq] at e
    obtain ⟨rfl, rfl, _⟩ := e
    rfl
  | c :: l, l', os, os', ps, qs, e, hq => by
    simp only [tlendL] at e
    cases h1 : tlendC F c os with
    | none => simp [h1] at e
    | some y =>
      obtain ⟨c1, p1, o1, q1⟩ := y
      simp only [h1] at e
      cases h2 : tlendL F l o1 with
      | none => simp [h2] at e
      | some z =>
        obtain ⟨l2, p2, o2, q2⟩ := z
        simp only [h2, Option.some.injEq, Prod.mk.injEq] at e
        obtain ⟨rfl, rfl, rfl, rfl⟩ := e
        simp only [lendL, tlendC_sound h1 (fun q hm => hq q (List.mem_append_left _ hm)), tlendL_sound h2 (fun q hm => hq q (List.mem_append_right _ hm))]
theorem tlendV_sound {F : Fr} {v v' : AV} {os os' : List (Nat × List (List Cell))} {ps : List Pl} {qs : List Prop} (e : tlendV F v os = some (v', ps, os', qs)) (hq : ∀ q ∈ qs, q) : lendV F v = some (v', ps) := by
  obtain ⟨t, rows⟩ := v
  unfold tlendV at e
  unfold lendV
  split at e
  · rename_i x ht hr
    simp only at ht hr
    subst ht; subst hr
    split at e
    · rename_i c p1 o1 q1 h1
      simp only [Option.some.injEq, Prod.mk.injEq] at e
      obtain ⟨rfl, rfl, rfl, rfl⟩ := e
      simp only [tlendC_sound h1 hq]
    · cases e
  · rename_i l ht hr
    simp only at ht hr
    subst ht; subst hr
    split at e
    · rename_i c p1 o1 q1 h1
      simp only [Option.some.injEq, Prod.mk.injEq] at e
      obtain ⟨rfl, rfl, rfl, rfl⟩ := e
      simp only [tlendL_sound h1 hq]
    · cases e
  · cases e
theorem tlendAll_sound {cx : Cx} {f : Nat} {F : Fr} : ∀ {j : Nat} {vs vs' : List AV} {os : List (Nat × List (List Cell))} {ps : List Pl} {qs : List Prop}, tlendAll cx f F j vs os = some (vs', ps, qs) → (∀ q ∈ qs, q) →
    handAll cx f F j vs = some (vs, F) ∧ lendAll cx f F j vs = some (vs', ps)
  | j, [], vs', os, ps, qs, e, _ => by
    simp only [tlendAll, Option.some.injEq, Prod.mk.injEq] at e
    obtain ⟨rfl, rfl, _⟩ := e
    exact ⟨rfl, rfl⟩
  | j, v :: vs, vs', os, ps, qs, e, hq => by
    simp only [tlendAll] at e
    by_cases hh : cx.hand f j = true
    · rw [if_pos hh] at e; cases e
    · rw [if_neg hh] at e
      cases h1 : tlendV F v os with
      | none => simp [h1] at e
      | some y =>
        obtain ⟨v1, p1, o1, q1⟩ := y
        simp only [h1] at e
        cases h2 : tlendAll cx f F (j + 1) vs o1 with
        | none => simp [h2] at e
        | some z =>
          obtain ⟨l2, p2, q2⟩ := z
          simp only [h2, Option.some.injEq, Prod.mk.injEq] at e
          obtain ⟨rfl, rfl, rfl⟩ := e
          obtain ⟨a1, a2⟩ := tlendAll_sound h2 (fun q hm => hq q (List.mem_append_right _ hm))
          have b1 := tlendV_sound h1 (fun q hm => hq q (List.mem_append_left _ hm))
          constructor
          · simp only [handAll, if_neg hh, a1]
          · simp only [lendAll, if_neg hh, b1, a2]
theorem tcallO_sound {cx : Cx} {F F' : Fr} {dst : Option Nat} {f : Nat} {vs : List AV} {v : AV} {os : List (Nat × List (List Cell))} {ps : List Prop} {r : Option Value}
    (e : tcallO cx F dst f vs v os = some (F', ps, r)) (hp : ∀ p ∈ ps, p) : ∃ rec, RecOk cx.P rec ∧ callF cx rec F dst f vs = some (F', r) := by
  unfold tcallO at e
  cases h1 : tlendAll cx f F 0 vs os with
  | none => simp [h1] at e
  | some y =>
    obtain ⟨args, lent, qs⟩ := y
    simp only [h1] at e
    split at e
    · rename_i hroots
      split at e
      · rename_i args' v' h3 h7
        split at e
        · rename_i hn
          simp only [Option.some.injEq, Prod.mk.injEq] at e
          obtain ⟨rfl, rfl, rfl⟩ := e
          obtain ⟨a1, a2⟩ := tlendAll_sound h1 (fun q hm => hp q (List.mem_cons_of_mem _ hm))
          have he : Ev cx.P cx.hand f args' [] (.ret v) [] := hp _ List.mem_cons_self
          obtain ⟨Ff, hf⟩ := freezeAll_some lent F
          refine ⟨_, oneRec_sound he, ?_⟩
          unfold callF
          rw [a1]
          simp only
          rw [a2]
          simp only
          rw [hroots, h3]
          simp only [mapO]
          rw [oneRec_self]
          simp only [mapO]
          rw [if_pos (by simp [nodupB]), hf]
          simp only
          rw [h7]
          simp only [List.isEmpty_nil, Bool.true_and, hn, if_true]
          rfl
        · cases e
      · cases e
    · cases e

def isCallA : Option Adv → Bool
  | some (.call _ _ _) => true
  | some (.callO _ _) => true
  | _ => false
theorem taop_sound {cx : Cx} {F F' : Fr} {o : Oper} {a : Option Adv} {ps : List Prop} {r : Option Value} (e : taop cx F o a = some (F', ps, r)) (hp : ∀ p ∈ ps, p) :
    (isCallA a = true ∧ ∃ rec, RecOk cx.P rec ∧ aop cx rec F o = some (F', r)) ∨ ∀ rec, aop cx rec F o = some (F', r) := by
  have plain : ∀ {a : Adv}, (if !noMv cx o then none else match tquiet cx F o a with
    | some (v, ps) => some (F.putS o.dst v, ps, none)
    | none => if (xquiet cx F o).isNone then (match tloud cx F o a with
      | some (F', ps) => some (F', ps, none)
      | none => none) else none) = some (F', ps, r) → ∀ rec, aop cx rec F o = some (F', r) := by
    intro a e
    by_cases hm : noMv cx o = true
    case neg => rw [if_pos (by simpa using hm)] at e; cases e
    rw [if_neg (by simp [hm])] at e
    have hm0 := noMv_eq hm F
    rw [xquiet_eq] at e
    cases hq : tquiet cx F o a with
    | some y =>
      obtain ⟨v, qs⟩ := y
      simp only [hq, Option.some.injEq, Prod.mk.injEq] at e
      obtain ⟨rfl, rfl, rfl⟩ := e
      exact fun rec => by simp only [aop, hm0, aop0, tquiet_sound hq hp]
    | none =>
      simp only [hq] at e
      split at e
      · rename_i hn
        rw [Option.isNone_iff_eq_none] at hn
        split at e
        · rename_i F1 qs hl
          simp only [Option.some.injEq, Prod.mk.injEq] at e
          obtain ⟨rfl, rfl, rfl⟩ := e
          exact fun rec => by simp only [aop, hm0, aop0, hn, tloud_sound hl hp]
        · cases e
      · cases e
  cases a with
  | none =>
    right
    simp only [taop, xaop_eq] at e
    split at e
    · rename_i F1 r1 h
      simp only [Option.some.injEq, Prod.mk.injEq] at e
      obtain ⟨rfl, rfl, rfl⟩ := e
      exact fun rec => aop_noRec _ h
    · cases e
  | some a =>
    cases a with
    | call res bx thaw =>
      left
      refine ⟨rfl, ?_⟩
      obtain ⟨dst, op, ty, pos, after, guard⟩ := o
      simp only [taop] at e
      split at e
      · rename_i g args argTypes
        split at e
        · rename_i f first caps hc
          obtain ⟨rec, hr, hN⟩ := tcallF_sound e hp
          refine ⟨rec, hr, ?_⟩
          have h1 : quiet cx F ⟨dst, .call { callee := .value g, args, argTypes }, ty, pos, after, guard⟩ = none := rfl
          have h0 : mvop cx F ⟨dst, .call { callee := .value g, args, argTypes }, ty, pos, after, guard⟩ = none := by unfold mvop; split <;> rfl
          have h2 : loud cx F ⟨dst, .call { callee := .value g, args, argTypes }, ty, pos, after, guard⟩ = none := rfl
          simp only [aop, h0, aop0, h1, h2, hc]
          exact hN
        · cases e
      · cases e
    | callO v os =>
      left
      refine ⟨rfl, ?_⟩
      obtain ⟨dst, op, ty, pos, after, guard⟩ := o
      simp only [taop] at e
      split at e
      · rename_i g args argTypes
        split at e
        · rename_i f first caps hc
          obtain ⟨rec, hr, hN⟩ := tcallO_sound e hp
          refine ⟨rec, hr, ?_⟩
          have h1 : quiet cx F ⟨dst, .call { callee := .value g, args, argTypes }, ty, pos, after, guard⟩ = none := rfl
          have h0 : mvop cx F ⟨dst, .call { callee := .value g, args, argTypes }, ty, pos, after, guard⟩ = none := by unfold mvop; split <;> rfl
          have h2 : loud cx F ⟨dst, .call { callee := .value g, args, argTypes }, ty, pos, after, guard⟩ = none := rfl
          simp only [aop, h0, aop0, h1, h2, hc]
          exact hN
        · cases e
      · cases e
    | test r => exact .inr (plain (a := .test r) e)
    | row r => exact .inr (plain (a := .row r) e)
    | bnd => exact .inr (plain (a := .bnd) e)
    | ld r => exact .inr (plain (a := .ld r) e)
    | look r => exact .inr (plain (a := .look r) e)
    | st => exact .inr (plain (a := .st) e)
    | ok => exact .inr (plain (a := .ok) e)
    | okE b => exact .inr (plain (a := .okE b) e)
    | okO rs b => exact .inr (plain (a := .okO rs b) e)
    | put es => exact .inr (plain (a := .put es) e)
    | alt p q => exact .inr (plain (a := .alt p q) e)
    | ldm l =>
      right
      simp only [taop] at e
      split at e
      · rename_i F1 qs hm
        simp only [Option.some.injEq, Prod.mk.injEq] at e
        obtain ⟨rfl, rfl, rfl⟩ := e
        exact fun rec => by simp only [aop, tmvop_sound hm hp]
      · cases e

theorem aops_congr {cx : Cx} {r1 r2 : Orac} {ops : List Oper} : ∀ {rest : List Oper} {F : Fr}, (∀ o ∈ rest, r1 o.dst = r2 o.dst) → aops cx r1 ops rest F = aops cx r2 ops rest F
  | [], _, _ => rfl
  | o :: rest, F, h => by
    have ho := h o List.mem_cons_self
    have hr : ∀ F, aops cx r1 ops rest F = aops cx r2 ops rest F := fun F => aops_congr fun o' hm => h o' (List.mem_cons_of_mem _ hm)
    simp only [aops, ho]
    split
    · split
      · exact hr _
      · rfl
    · exact hr _
    · rfl
theorem drun_congr {cx : Cx} {r1 r2 : Orac} {ops : List Oper} : ∀ {rest : List Oper} {F : Fr}, (∀ o ∈ rest, r1 o.dst = r2 o.dst) → drun cx r1 ops rest F = drun cx r2 ops rest F
  | [], _, _ => rfl
  | o :: rest, F, h => by
    have ho := h o List.mem_cons_self
    have hr : ∀ F, drun cx r1 ops rest F = drun cx r2 ops rest F := fun F => drun_congr fun o' hm => h o' (List.mem_cons_of_mem _ hm)
    have hd : dop cx r1 ops F o = dop cx r2 ops F o := by simp only [dop, ho]
    simp only [drun, hd, hr]

theorem callOk_rest {o : Oper} {rest : List Oper} {a : Option Adv} (h : callOk o rest a = true) (ha : isCallA a = true) : ∀ o' ∈ rest, o'.dst ≠ o.dst := by
  cases a with
  | none => cases ha
  | some a =>
    cases a with
    | call r b t =>
      intro o' hm
      have := (List.all_eq_true.1 h) o' hm
      simpa using this
    | callO v os =>
      intro o' hm
      have := (List.all_eq_true.1 h) o' hm
      simpa using this
    | _ => cases ha

theorem taops_sound {cx : Cx} {ops : List Oper} : ∀ {rest : List Oper} {F F' : Fr} {ad ad' : Advs} {ps : List Prop} {r : Option Value}, taops cx ops rest F ad = some (F', ad', ps, r) → (∀ p ∈ ps, p) →
    ∃ recs : Orac, (∀ d, RecOk cx.P (recs d)) ∧ aops cx recs ops rest F = some (F', r)
  | [], F, F', ad, ad', ps, r, e, _ => by
    simp only [taops, Option.some.injEq, Prod.mk.injEq] at e
    obtain ⟨rfl, _, _, rfl⟩ := e
    exact ⟨fun _ => noRec, fun _ => noRec_ok _, rfl⟩
  | o :: rest, F, F', ad, ad', ps, r, e, hp => by
    simp only [taops] at e
    cases hw : wantedA ops F o with
    | none => simp [hw] at e
    | some b =>
      cases b with
      | true =>
        simp only [hw] at e
        split at e
        · rename_i hc
          split at e
          · rename_i F1 qs h1
            simp only [spF_eq] at e
            cases h2 : taops cx ops rest F1 (nextAdv o.dst ad).2 with
            | none => simp [h2] at e
            | some z =>
              obtain ⟨F2, ad2, qs2, r2⟩ := z
              simp only [h2, Option.some.injEq, Prod.mk.injEq] at e
              obtain ⟨rfl, rfl, rfl, rfl⟩ := e
              obtain ⟨recs, k1, k2⟩ := taops_sound h2 (fun p hm => hp p (List.mem_append_right _ hm))
              rcases taop_sound h1 (fun p hm => hp p (List.mem_append_left _ hm)) with ⟨ha, rec, r1, r2'⟩ | hall
              · refine ⟨fun d => if d = o.dst then rec else recs d, fun d => ?_, ?_⟩
                · dsimp only
                  split
                  · exact r1
                  · exact k1 d
                · simp only [aops, hw, if_true, r2']
                  rw [← k2]
                  exact aops_congr fun o' hm => if_neg (callOk_rest hc ha o' hm)
              · exact ⟨recs, k1, by simp only [aops, hw, hall]; exact k2⟩
          · rename_i F1 qs v h1
            simp only [Option.some.injEq, Prod.mk.injEq] at e
            obtain ⟨rfl, rfl, rfl, rfl⟩ := e
            rcases taop_sound h1 hp with ⟨ha, rec, r1, r2'⟩ | hall
            · exact ⟨fun _ => rec, fun _ => r1, by simp only [aops, hw, r2']⟩
            · exact ⟨fun _ => noRec, fun _ => noRec_ok _, by simp only [aops, hw, hall]⟩
          · cases e
        · cases e
      | false =>
        simp only [hw, spF_eq] at e
        obtain ⟨recs, k1, k2⟩ := taops_sound e hp
        exact ⟨recs, k1, by simp only [aops, hw]; exact k2⟩

theorem tdop_sound {cx : Cx} {ops : List Oper} {F F' : Fr} {o : Oper} {ad ad' : Advs} {I : Info} {ps : List Prop} (e : tdop cx ops F o ad = some (F', I, ad', ps)) (hp : ∀ p ∈ ps, p) :
    (isCallA (nextAdv o.dst ad).1 = true ∧ ∃ rec, RecOk cx.P rec ∧ dop cx (fun _ => rec) ops F o = some (F', I)) ∨ ∀ recs : Orac, dop cx recs ops F o = some (F', I) := by
  unfold tdop at e
  simp only [xquiet_eq, xaop_eq] at e
  cases hw : wantedA ops F o with
  | none => simp [hw] at e
  | some b =>
    cases b with
    | false =>
      simp only [hw, Option.some.injEq, Prod.mk.injEq] at e
      obtain ⟨rfl, rfl, _, _⟩ := e
      exact .inr fun recs => by simp only [dop, hw]
    | true =>
      simp only [hw] at e
      obtain ⟨a, ad1, ha⟩ : ∃ a ad1, nextAdv o.dst ad = (a, ad1) := ⟨_, _, rfl⟩
      rw [ha] at e ⊢
      cases a with
      | none =>
        right
        simp only at e
        cases hq : quiet cx F o with
        | some v =>
          simp only [hq, Option.some.injEq, Prod.mk.injEq] at e
          obtain ⟨rfl, rfl, _, _⟩ := e
          exact fun recs => by simp only [dop, hw, hq]
        | none =>
          simp only [hq] at e
          split at e
          · rename_i hc
            split at e
            · rename_i F1 h1
              simp only [Option.some.injEq, Prod.mk.injEq] at e
              obtain ⟨rfl, rfl, _, _⟩ := e
              exact fun recs => by simp only [dop, hw, hq, hc, if_true, aop_noRec _ h1]
            · cases e
          · cases e
      | some a =>
        simp only at e
        cases hq : tquiet cx F o a with
        | some y =>
          obtain ⟨v, qs⟩ := y
          simp only [hq, Option.some.injEq, Prod.mk.injEq] at e
          obtain ⟨rfl, rfl, _, rfl⟩ := e
          exact .inr fun recs => by simp only [dop, hw, tquiet_sound hq hp]
        | none =>
          simp only [hq] at e
          split at e
          · rename_i hc
            simp only [Bool.and_eq_true, Option.isNone_iff_eq_none] at hc
            split at e
            · rename_i F1 qs h1
              simp only [Option.some.injEq, Prod.mk.injEq] at e
              obtain ⟨rfl, rfl, _, rfl⟩ := e
              rcases taop_sound h1 hp with ⟨hc2, rec, r1, r2⟩ | hall
              · exact .inl ⟨hc2, rec, r1, by simp only [dop, hw, hc.1, hc.2, if_true, r2]⟩
              · exact .inr fun recs => by simp only [dop, hw, hc.1, hc.2, if_true, hall]
            · cases e
          · cases e

theorem tdrun_sound {cx : Cx} {ops : List Oper} : ∀ {rest : List Oper} {F F' : Fr} {ad ad' : Advs} {is : List Info} {ps : List Prop}, tdrun cx ops rest F ad = some (F', is, ad', ps) → (∀ p ∈ ps, p) →
    ∃ recs : Orac, (∀ d, RecOk cx.P (recs d)) ∧ drun cx recs ops rest F = some (F', is)
  | [], F, F', ad, ad', is, ps, e, _ => by
    simp only [tdrun, Option.some.injEq, Prod.mk.injEq] at e
    obtain ⟨rfl, rfl, _⟩ := e
    exact ⟨fun _ => noRec, fun _ => noRec_ok _, rfl⟩
  | o :: rest, F, F', ad, ad', is, ps, e, hp => by
    simp only [tdrun] at e
    split at e
    · cases e
    · rename_i hc
      simp only [Bool.not_eq_true', Bool.not_eq_false] at hc
      cases h1 : tdop cx ops F o ad with
      | none => simp [h1] at e
      | some y =>
        obtain ⟨F1, i, ad1, qs⟩ := y
        simp only [h1, spF_eq, forceI_eq] at e
        cases h2 : tdrun cx ops rest F1 ad1 with
        | none => simp [h2] at e
        | some z =>
          obtain ⟨F2, is2, ad2, qs2⟩ := z
          simp only [h2, Option.some.injEq, Prod.mk.injEq] at e
          obtain ⟨rfl, rfl, rfl, rfl⟩ := e
          obtain ⟨recs, k1, k2⟩ := tdrun_sound h2 (fun p hm => hp p (List.mem_append_right _ hm))
          rcases tdop_sound h1 (fun p hm => hp p (List.mem_append_left _ hm)) with ⟨ha, rec, r1, r2⟩ | hall
          · refine ⟨fun d => if d = o.dst then rec else recs d, fun d => ?_, ?_⟩
            · dsimp only
              split
              · exact r1
              · exact k1 d
            · have hd : dop cx (fun d => if d = o.dst then rec else recs d) ops F o = some (F1, i) := by
                rw [← r2]
                simp only [dop, if_true]
              have hr : drun cx (fun d => if d = o.dst then rec else recs d) ops rest F1 = some (F2, is2) := by
                rw [← k2]
                exact drun_congr fun o' hm => if_neg (callOk_rest hc ha o' hm)
              simp only [drun, hd, hr]
          · exact ⟨recs, k1, by simp only [drun, hall, k2]⟩

theorem tadraw2_sound {cx : Cx} {ops : List Oper} {F F' : Fr} {p q : Nat} {ad ad' : Advs} {ps : List Prop} (e : tadraw2 cx ops F p q ad = some (F', ad', ps)) (hp : ∀ p ∈ ps, p) :
    ∃ is is2 F2, adraw2 cx (fun _ => noRec) ops F p q is is2 F' F2 := by
  unfold tadraw2 at e
  cases h2 : tdrun cx ops (opsAt ops (altIdx p q ops.length)) F ad with
  | none => simp [h2] at e
  | some y =>
    obtain ⟨F2, is2, ad1, qs⟩ := y
    simp only [h2] at e
    cases h1 : tdrun cx ops ops F ad1 with
    | none => simp [h1] at e
    | some z =>
      obtain ⟨F1, is, ad2, ps1⟩ := z
      simp only [h1] at e
      obtain ⟨hc, e⟩ := ite_none_some e
      rw [Bool.and_eq_true] at hc
      simp only [Option.some.injEq, Prod.mk.injEq] at e
      obtain ⟨rfl, rfl, rfl⟩ := e
      have hno : ∀ o ∈ ops, noCallO o = true := List.all_eq_true.1 hc.1
      obtain ⟨recs1, _, k1⟩ := tdrun_sound h1 (fun p hm => hp p (List.mem_cons_of_mem _ (List.mem_append_right _ hm)))
      obtain ⟨recs2, _, k2⟩ := tdrun_sound h2 (fun p hm => hp p (List.mem_cons_of_mem _ (List.mem_append_left _ hm)))
      refine ⟨is, is2, F2, ?_, ?_, hp _ List.mem_cons_self, hc.2⟩
      · rw [← k1]; exact drun_noCall hno
      · rw [← k2]; exact drun_noCall fun o hm => hno o (opsAt_mem hm)

theorem tadraw_sound {cx : Cx} {ops : Array Oper} {F F' : Fr} {ad ad' : Advs} {ps : List Prop} (e : tadraw cx ops.toList F ad = some (F', ad', ps)) (hp : ∀ p ∈ ps, p) (hmix : cx.P.follows .mixedOrders = true)
    {G0 : Gh} {w0 : World} {G : Gh} {w : World} {a : Act} {Q : Exit → Act → World → Prop} {id : Nat} (h : RelF G w F a.tmps) (hg : GainW G0 w0 G w) (hd : a.defers = [])
    (hq : ∀ a' w', Stands G0 w0 F' a' w' → Q .normal a' w') : (Code.region id ops true).wp cx.P Q a w := by
  have one : ∀ {ad : Advs}, (match tdrun cx ops.toList ops.toList F ad with
      | some (F', is, ad', ps) => if edgesOk 0 ops.toList && checkFrom (befL ops.toList []) is 0 is then some (F', ad', ps) else none
      | none => none) = some (F', ad', ps) → (Code.region id ops true).wp cx.P Q a w := by
    intro ad e
    cases h1 : tdrun cx ops.toList ops.toList F ad with
    | none => simp [h1] at e
    | some y =>
      obtain ⟨F1, is, ad1, qs⟩ := y
      simp only [h1] at e
      obtain ⟨hc, e⟩ := ite_none_some e
      simp only [Option.some.injEq, Prod.mk.injEq] at e
      obtain ⟨rfl, rfl, rfl⟩ := e
      obtain ⟨recs, k1, k2⟩ := tdrun_sound h1 hp
      exact adraw_sound (fun d => (k1 d).1) (fun d => (k1 d).2) hmix h hg hd (by simp only [adraw, k2, hc, if_true]) hq
  unfold tadraw at e
  split at e
  · obtain ⟨is, is2, F2, k⟩ := tadraw2_sound e hp
    exact adraw2_sound (fun _ => (noRec_ok cx.P).1) (fun _ => (noRec_ok cx.P).2) hmix h hg hd k hq
  · exact one e

/-! continuations, in the model -/

/-- a loop, from its body's beginning. -/
def LoopW (P : Program) (c : Code) (Q : Exit → Act → World → Prop) (a : Act) (w : World) : Prop :=
  ∀ (b : Frame) (k : List Item) (cs : List Frame), ∃ e a' w', Q e a' w' ∧ Arrives P (lone (b.at a (.code c :: .inLoop c :: k)) cs w) b k cs e a' w'
theorem LoopW.loop {P : Program} {c : Code} {Q : Exit → Act → World → Prop} {a : Act} {w : World} (h : LoopW P c Q a w) : (Code.loop c).wp P Q a w := by
  intro b k cs
  obtain ⟨e, a', w', hq, harr⟩ := h b k cs
  exact ⟨e, a', w', hq, .of_steps (.one step_loop) harr⟩
theorem LoopW.round {P : Program} {c : Code} {Q : Exit → Act → World → Prop} {a : Act} {w : World} (h : c.wp P (Exit.then (LoopW P c Q) Q) a w) : LoopW P c Q a w := by
  intro b k cs
  obtain ⟨e, a₁, w₁, hq, harr⟩ := h b (.inLoop c :: k) cs
  cases e with
  | normal =>
    obtain ⟨e₂, a₂, w₂, hq₂, harr₂⟩ := hq b k cs
    exact ⟨e₂, a₂, w₂, hq₂, .of_steps (Steps.trans harr (.one step_inLoop)) harr₂⟩
  | exit id => exact ⟨_, a₁, w₁, hq, .pass (x := .inLoop c) rfl (fun _ _ => .inl (by simp)) harr⟩
  | goto l => exact ⟨_, a₁, w₁, hq, .pass (x := .inLoop c) rfl (fun _ _ => .inl (by simp)) harr⟩
  | ret => exact ⟨_, a₁, w₁, hq, .pass (x := .inLoop c) rfl (fun _ _ => .inl (by simp)) harr⟩
  | panic ch => exact ⟨_, a₁, w₁, hq, .pass (x := .inLoop c) rfl (fun _ _ => .inl (by simp)) harr⟩
  | outgrown => exact ⟨_, a₁, w₁, hq, .pass (x := .inLoop c) rfl (fun _ _ => .inl (by simp)) harr⟩

/-- what is still to be done, from an exit on. -/
def KQ (P : Program) : List TItem → (Exit → Act → World → Prop) → Exit → Act → World → Prop
  | [], Q => Q
  | .code c :: K, Q => Exit.then (c.wp P (KQ P K Q)) (KQ P K Q)
  | .inBlock id :: K, Q => Exit.inBlock id (KQ P K Q)
  | .inLoop b :: K, Q => Exit.then (LoopW P b (KQ P K Q)) (KQ P K Q)

/-- what is still to be done ends so, in whatever memory the frame fits. -/
def Fin (cx : Cx) (fn : Func) (K : List TItem) (F : Fr) (res : ARes) (bx : List (List Cell)) : Prop :=
  ∀ G0 w0 G w a, (∀ d, ¬ G0.lv d) → RelF G w F a.tmps → GainW G0 w0 G w → a.defers = [] → KQ cx.P K (bodyPost cx.P fn (Went G0 w0 res bx)) .normal a w
def TStop.ends (cx : Cx) (fn : Func) (s : TStop) (res : ARes) (bx : List (List Cell)) : Prop := match s with
  | .fin r b => r = res ∧ b = bx
  | .at K F => Fin cx fn K F res bx

/-- an exit that is no block's goes through all. -/
theorem KQ_ret {P : Program} {Q : Exit → Act → World → Prop} {a : Act} {w : World} (h : Q .ret a w) : ∀ K, KQ P K Q .ret a w
  | [] => h
  | .code _ :: K => KQ_ret h K
  | .inBlock _ :: K => KQ_ret h K
  | .inLoop _ :: K => KQ_ret h K
theorem KQ_panic {P : Program} {Q : Exit → Act → World → Prop} {a : Act} {w : World} {ch : List PanicEntry} (h : Q (.panic ch) a w) : ∀ K, KQ P K Q (.panic ch) a w
  | [] => h
  | .code _ :: K => KQ_panic h K
  | .inBlock _ :: K => KQ_panic h K
  | .inLoop _ :: K => KQ_panic h K
theorem KQ_exit {P : Program} {Q : Exit → Act → World → Prop} {a : Act} {w : World} {id : Nat} : ∀ {K K' : List TItem}, texitTo id K = some K' → KQ P K' Q .normal a w → KQ P K Q (.exit id) a w
  | [], K', e, _ => by simp [texitTo] at e
  | .code _ :: K, K', e, h => KQ_exit (K := K) e h
  | .inLoop _ :: K, K', e, h => KQ_exit (K := K) e h
  | .inBlock id' :: K, K', e, h => by
    simp only [texitTo] at e
    show if id = id' then KQ P K Q .normal a w else KQ P K Q (.exit id) a w
    by_cases hid : id' = id
    · rw [if_pos hid] at e
      rw [if_pos hid.symm]
      cases e
      exact h
    · rw [if_neg hid] at e
      rw [if_neg (fun e => hid e.symm)]
      exact KQ_exit e h

/-- what a body leaves at its end. -/
theorem fin_sound {P : Program} {fn : Func} {nb : Nat} {F : Fr} {res : ARes} {bx : List (List Cell)} (e : tfin P fn nb F = some (.fin res bx)) {G0 G : Gh} {w0 w : World} {a : Act} (hlv : ∀ d, ¬ G0.lv d)
    (h : RelF G w F a.tmps) (hg : GainW G0 w0 G w) (hd : a.defers = []) : a.defers = [] ∧ ∃ v, (results fn a.tmps).run P w = .ok v w ∧ Went G0 w0 res bx (.returned v) w := by
  refine ⟨hd, ?_⟩
  unfold tfin at e
  cases h1 : resAll P F fn.results.toList with
  | none => simp [h1] at e
  | some z =>
    obtain ⟨vs, F2⟩ := z
    simp only [h1] at e
    cases h2 : resAV vs with
    | none => simp [h2] at e
    | some v =>
      cases h3 : outBoxes F2 nb with
      | none => simp [h2, h3] at e
      | some bx2 =>
        simp only [h2, h3, Option.some.injEq, TStop.fin.injEq] at e
        obtain ⟨rfl, rfl⟩ := e
        obtain ⟨im', xss, Us, b0, b1, b2, b3, b4, b5, b6⟩ := resAll_sound fn.results.toList vs G F F2 h h1
        obtain ⟨s1, s2⟩ := resAV_rel b4 h2
        refine ⟨_, run_results b0, ?_⟩
        obtain ⟨l1, l2⟩ := leave_rel (sl := [v]) (ts1 := #[resVal Us.toArray]) b1 b5 h3 rfl (fun k v' hk => by
          cases k with
          | zero =>
            simp only [List.getElem?_cons_zero, Option.some.injEq] at hk
            subst hk
            refine ⟨rfl, _, rfl, s1, fun r o c hc => ?_⟩
            obtain ⟨xs, us, u, q1, q2, q3, q4⟩ := s2 r o c hc
            exact ⟨xs, us, u, q1, q2, q3, q4⟩
          | succ k => simp at hk) (fun s hs => by
            have nouse : ∀ {xss : List (List (Option Pl))} {vs : List (Bool × List Cell)} {Us : List Value}, HoldRs { G with im := im' } w F2 xss vs Us → some s ∈ xss.flatten →
                ((∀ i, s.key.root ≠ .par i) ∧ s.key.path = []) ∧ ∀ π, ¬ Uses F2 (s.under π) := by
              intro xss
              induction xss with
              | nil => intro vs Us _ hm; simp at hm
              | cons xs xss ih =>
                intro vs Us hh hm
                cases vs with
                | nil => exact hh.elim
                | cons y vs =>
                  obtain ⟨g, l⟩ := y
                  cases Us with
                  | nil => exact hh.elim
                  | cons U Us =>
                    obtain ⟨⟨us, h1, _⟩, h2⟩ := hh
                    rw [List.flatten_cons, List.mem_append] at hm
                    rcases hm with hm | hm
                    · exact h1.nouse hm
                    · exact ih h2 hm
            exact nouse b4 hs)
        exact ⟨_, ((hg.trans b2.w).trans l2).full hlv, _, rfl, l1⟩
theorem panic_sound {F : Fr} {nb : Nat} {v : Value} {bx : List (List Cell)} (h3 : outBoxes F nb = some bx) {G0 G : Gh} {w0 w : World} {a : Act} (hlv : ∀ d, ¬ G0.lv d)
    (h : RelF G w F a.tmps) (hg : GainW G0 w0 G w) (hd : a.defers = []) : a.defers = [] ∧ Went G0 w0 (.panic v) bx (.panicked [{ v, recovered := false }]) w := by
  refine ⟨hd, ?_⟩
  obtain ⟨l1, l2⟩ := leave_rel (xss := []) (sl := []) (ts1 := #[]) h (by unfold Nod; simp) h3 rfl (by simp) (by simp)
  exact ⟨_, (hg.trans l2).full hlv, rfl, l1⟩

theorem tfin_fin {P : Program} {fn : Func} {nb : Nat} {F : Fr} {s : TStop} (e : tfin P fn nb F = some s) : ∃ r b, s = .fin r b := by
  unfold tfin at e
  split at e
  · split at e
    · simp only [Option.some.injEq] at e; exact ⟨_, _, e.symm⟩
    · cases e
  · cases e

theorem mgo_sound {cx : Cx} {fn : Func} {nb : Nat} (hmix : cx.P.follows .mixedOrders = true) {res : ARes} {bx : List (List Cell)} : ∀ {n : Nat} {K : List TItem} {F : Fr} {ad : Advs} {s : TStop} {ps : List Prop},
    mgo cx fn nb n K F ad = some (s, ps) → (∀ p ∈ ps, p) → s.ends cx fn res bx → Fin cx fn K F res bx
  | 0, K, F, ad, s, ps, e, _, hs => by
    simp only [mgo] at e
    split at e
    · simp only [Option.some.injEq, Prod.mk.injEq] at e
      obtain ⟨rfl, _⟩ := e
      exact hs
    · cases e
  | n + 1, [], F, ad, s, ps, e, hp, hs => by
    simp only [mgo] at e
    split at e
    · split at e
      · rename_i s' h
        simp only [Option.some.injEq, Prod.mk.injEq] at e
        obtain ⟨rfl, _⟩ := e
        obtain ⟨r, b, rfl⟩ := tfin_fin h
        obtain ⟨rfl, rfl⟩ := hs
        exact fun G0 w0 G w a hlv hr hg hd => fin_sound h hlv hr hg hd
      · cases e
    · cases e
  | n + 1, .inLoop b :: K, F, ad, s, ps, e, hp, hs => by
    simp only [mgo] at e
    split at e
    · have := mgo_sound hmix e hp hs
      exact fun G0 w0 G w a hlv hr hg hd => LoopW.round (this G0 w0 G w a hlv hr hg hd)
    · rw [forceF_eq] at e
      have := mgo_sound hmix e hp hs
      intro G0 w0 G w a hlv hr hg hd
      obtain ⟨G', r1, g1⟩ := norm_rel hr [] _
      exact LoopW.round (this G0 w0 G' w a hlv r1 (hg.trans g1) hd)
  | n + 1, .inBlock id :: K, F, ad, s, ps, e, hp, hs => by
    simp only [mgo] at e
    have := mgo_sound hmix e hp hs
    exact fun G0 w0 G w a hlv hr hg hd => this G0 w0 G w a hlv hr hg hd
  | n + 1, .code c :: K, F, ad, s, ps, e, hp, hs => by
    cases c with
    | skip =>
      simp only [mgo] at e
      have := mgo_sound hmix e hp hs
      exact fun G0 w0 G w a hlv hr hg hd => wp_skip (this G0 w0 G w a hlv hr hg hd)
    | region id ops draw =>
      simp only [mgo] at e
      cases draw with
      | true =>
        rw [if_pos rfl] at e
        split at e
        · rename_i F1 ad1 qs h1
          cases h2 : mgo cx fn nb n K F1 ad1 with
          | none => simp [h2, addPs] at e
          | some y =>
            obtain ⟨s', qs2⟩ := y
            simp only [h2, addPs, Option.some.injEq, Prod.mk.injEq] at e
            obtain ⟨rfl, rfl⟩ := e
            have ih := mgo_sound hmix h2 (fun p hm => hp p (List.mem_append_right _ hm)) hs
            intro G0 w0 G w a hlv hr hg hd
            refine tadraw_sound h1 (fun p hm => hp p (List.mem_append_left _ hm)) hmix hr hg hd fun a' w' hst => ?_
            obtain ⟨hd', G', hg', hr'⟩ := hst
            exact ih G0 w0 G' w' a' hlv hr' hg' hd'
        · cases e
      | false =>
        rw [if_neg (by simp)] at e
        have reg : ∀ {F1 : Fr} {r : Option Value} {ad1 : Advs} {qs : List Prop}, taops cx ops.toList ops.toList F ad = some (F1, ad1, qs, r) → (∀ p ∈ qs, p) → ∀ {Q : Exit → Act → World → Prop} {G0 w0 G w a},
            RelF G w F a.tmps → GainW G0 w0 G w → a.defers = [] → (r = none → ∀ a' w', Stands G0 w0 F1 a' w' → Q .normal a' w') → (∀ v, r = some v → ∀ a' w', Stands G0 w0 F1 a' w' → Q (.panic [{ v, recovered := false }]) a' w') →
            (Code.region id ops false).wp cx.P Q a w := by
          intro F1 r ad1 qs h1 hq Q G0 w0 G w a hr hg hd hn hpn
          obtain ⟨recs, k1, k2⟩ := taops_sound h1 hq
          refine wp_region ?_
          have hrg : List.range ops.size = List.range' 0 ops.toList.length := by rw [List.range_eq_range']; simp
          rw [hrg]
          exact aops_sound (fun d => (k1 d).1) (fun d => (k1 d).2) ops.toList 0 G w F a F1 r (fun k => by simp) hr hg hd k2 hn hpn
        split at e
        · rename_i F1 ad1 qs h1
          cases h2 : mgo cx fn nb n K F1 ad1 with
          | none => simp [h2, addPs] at e
          | some y =>
            obtain ⟨s', qs2⟩ := y
            simp only [h2, addPs, Option.some.injEq, Prod.mk.injEq] at e
            obtain ⟨rfl, rfl⟩ := e
            have ih := mgo_sound hmix h2 (fun p hm => hp p (List.mem_append_right _ hm)) hs
            intro G0 w0 G w a hlv hr hg hd
            refine reg h1 (fun p hm => hp p (List.mem_append_left _ hm)) hr hg hd (fun _ a' w' hst => ?_) (fun v hv => by cases hv)
            obtain ⟨hd', G', hg', hr'⟩ := hst
            exact ih G0 w0 G' w' a' hlv hr' hg' hd'
        · rename_i F1 qs v h1
          split at e
          · rename_i bx2 h3
            simp only [Option.some.injEq, Prod.mk.injEq] at e
            obtain ⟨rfl, rfl⟩ := e
            obtain ⟨rfl, rfl⟩ := hs
            intro G0 w0 G w a hlv hr hg hd
            refine reg h1 hp hr hg hd (fun hn => by cases hn) (fun v' hv a' w' hst => ?_)
            cases hv
            obtain ⟨hd', G', hg', hr'⟩ := hst
            exact KQ_panic (panic_sound h3 hlv hr' hg' hd') K
          · cases e
        · cases e
    | seq a b =>
      simp only [mgo] at e
      have := mgo_sound hmix e hp hs
      exact fun G0 w0 G w a hlv hr hg hd => wp_seq (this G0 w0 G w a hlv hr hg hd)
    | cond c a b =>
      simp only [mgo] at e
      split at e
      · rename_i hc
        have := mgo_sound hmix e hp hs
        exact fun G0 w0 G w a hlv hr hg hd => wp_cond_true (con_rel (ev_rel hr c) hc) (this G0 w0 G w a hlv hr hg hd)
      · rename_i hc
        have := mgo_sound hmix e hp hs
        exact fun G0 w0 G w a hlv hr hg hd => wp_cond_false (con_rel (ev_rel hr c) hc) (this G0 w0 G w a hlv hr hg hd)
      · cases e
    | block id b =>
      simp only [mgo] at e
      have := mgo_sound hmix e hp hs
      exact fun G0 w0 G w a hlv hr hg hd => wp_block (Code.wp_mono (fun e a w q => by
        cases e <;> exact q) (this G0 w0 G w a hlv hr hg hd))
    | loop b =>
      simp only [mgo] at e
      have := mgo_sound hmix e hp hs
      exact fun G0 w0 G w a hlv hr hg hd => (this G0 w0 G w a hlv hr hg hd : LoopW cx.P b _ a w).loop
    | exit id =>
      simp only [mgo] at e
      split at e
      · rename_i K' hk
        have := mgo_sound hmix e hp hs
        exact fun G0 w0 G w a hlv hr hg hd => wp_exit (KQ_exit hk (this G0 w0 G w a hlv hr hg hd))
      · cases e
    | ret =>
      simp only [mgo] at e
      split at e
      · split at e
        · rename_i s' h
          simp only [Option.some.injEq, Prod.mk.injEq] at e
          obtain ⟨rfl, _⟩ := e
          obtain ⟨r, b, rfl⟩ := tfin_fin h
          obtain ⟨rfl, rfl⟩ := hs
          exact fun G0 w0 G w a hlv hr hg hd => wp_ret (KQ_ret (fin_sound h hlv hr hg hd) K)
        · cases e
      · cases e
    | _ => simp [mgo] at e

/-- a function's frame at the beginning. -/
def fr0 (fn : Func) (args : List AV) (bx : List (List Cell)) : Fr := ⟨args ++ List.replicate (fn.ntmps - args.length) .undef, parBoxes 0 bx⟩

theorem ev_of_fin {P : Program} {hand : Nat → Nat → Bool} {f : Nat} {fn : Func} {body : Code} {cx : Cx} {args : List AV} {bx bx' : List (List Cell)} {res : ARes} (hf : P.funcs[f]? = some fn) (hb : fn.body = some body) (hn : (fn.name == "runtime.NumGoroutine") = false)
    (hP : cx.P = P) (h : Fin cx fn [.code body] (fr0 fn args bx) res bx') : Ev P hand f args bx res bx' := by
  subst hP
  refine ⟨⟨fn, hf, by rw [hb]; rfl, hn⟩, fun G w Vs hr => ?_⟩
  have hlv : ∀ d, ¬ G.lv d := fun d hd => by
    obtain ⟨l, hl⟩ := Option.isSome_iff_exists.1 (hr.live d hd)
    obtain ⟨i, h1, _⟩ := lookup_par _ _ _ _ hl
    cases h1
  have h0 := begin_rel hr fn.ntmps
  exact calls_of_wp hf hb (h G w G w _ hlv h0 (Gain.refl G w).w rfl)
end Ab
end Go.Proofs.YtgghingfdcmelaaGreat

/-
  Stretches cut where it is told; functions that recur by steps; and how a stretch's ways are taken apart.
-/
namespace Go.Proofs.YtgghingfdcmelaaGreat
namespace Ab

def rep {α : Type} (n : Nat) (x : α) : List α := List.replicate n x
def noHand : Nat → Nat → Bool := fun _ _ => false
def AllP : List Prop → Prop
  | [] => True
  | p :: l => p ∧ AllP l
theorem AllP.mem : ∀ {l : List Prop}, AllP l → ∀ p ∈ l, p
  | [], _, p, hp => by cases hp
  | q :: l, ⟨h1, h2⟩, p, hp => by
    rcases List.mem_cons.1 hp with rfl | hp
    · exact h1
    · exact AllP.mem h2 p hp

noncomputable def shalV {α : Type} (v : AV) (k : AV → α) : α := match v with | ⟨t, rows⟩ => forceT t fun t => spineK (spineK forceC) rows fun rows => k ⟨t, rows⟩
theorem shalV_eq {α : Type} (v : AV) (k : AV → α) : shalV v k = k v := by
  obtain ⟨t, rows⟩ := v
  simp only [shalV]
  have : ∀ (k : List (List Cell) → α), spineK (spineK forceC) rows k = k rows := spineK_eq (fun l k => spineK_eq (fun c k => forceC_eq c k) l k) rows
  cases t <;> exact this _
noncomputable def normK {α : Type} (ks ls : List Nat) : List Bool → List AV → (List AV → α) → α
  | true :: m, _ :: l, k => normK ks ls m l fun l => k (.deadv :: l)
  | false :: m, v :: l, k => shalV (v.mapC (purgeC ks ls)) fun v => normK ks ls m l fun l => k (v :: l)
  | _, [], k => k []
  | [], l, k => k l
def maskL (ks : List Nat) : Nat → Nat → List Bool
  | _, 0 => []
  | i, n + 1 => ks.contains i :: maskL ks (i + 1) n
theorem maskL_len (ks : List Nat) : ∀ (n i : Nat), (maskL ks i n).length = n
  | 0, _ => rfl
  | n + 1, i => by simp [maskL, maskL_len ks n]
theorem normK_eq {α : Type} (ks ls : List Nat) : ∀ (s : List AV) (i : Nat) (k : List AV → α), normK ks ls (maskL ks i s.length) s k = k (normS ks ls i s)
  | [], i, k => rfl
  | v :: s, i, k => by
    show normK ks ls (ks.contains i :: maskL ks (i + 1) s.length) (v :: s) k = k (normS ks ls i (v :: s))
    cases h : ks.contains i with
    | true => simp only [normK, normS, normK_eq ks ls s (i + 1), h, if_true]
    | false => simp only [normK, normS, normK_eq ks ls s (i + 1), h, shalV_eq, Bool.false_eq_true, if_false]
/-- a frame of which parts are forgotten. -/
noncomputable def headK {α : Type} (ks ls : List Nat) (m : List Bool) (F : Fr) (k : Fr → α) : α := match F with
  | ⟨s, b⟩ => if m.length = s.length then normK ks ls m s fun s => forceBs (normB ks ls b) fun b => k ⟨s, b⟩ else k (F.norm ks ls)
theorem headK_eq {α : Type} (ks ls : List Nat) (n : Nat) (F : Fr) (k : Fr → α) : headK ks ls (maskL ks 0 n) F k = k (F.norm ks ls) := by
  obtain ⟨s, b⟩ := F
  unfold headK
  simp only [maskL_len]
  split
  · rename_i h
    rw [h, normK_eq, forceBs_eq]
    rfl
  · rfl

/-- a number's bits. -/
def bm : Nat → Nat → List Bool
  | 0, _ => []
  | n + 1, m => (m % 2 == 1) :: bm n (m / 2)
def maskKs : Nat → List Bool → List Nat
  | _, [] => []
  | i, true :: m => i :: maskKs (i + 1) m
  | i, false :: m => maskKs (i + 1) m
theorem maskKs_ge : ∀ {m : List Bool} {i k : Nat}, k ∈ maskKs i m → i ≤ k
  | [], i, k, h => by cases h
  | true :: m, i, k, h => by
    rcases List.mem_cons.1 h with rfl | h
    · exact Nat.le_refl _
    · have := maskKs_ge h; omega
  | false :: m, i, k, h => by
    have := maskKs_ge (m := m) h; omega
theorem maskL_maskKs : ∀ (m : List Bool) (i : Nat) (pre : List Nat), (∀ k ∈ pre, k < i) → maskL (pre ++ maskKs i m) i m.length = m
  | [], i, pre, _ => rfl
  | x :: m, i, pre, h => by
    have hp : pre.contains i = false := by
      cases hc : pre.contains i with
      | false => rfl
      | true => have := h i (by simpa using hc); omega
    show (pre ++ maskKs i (x :: m)).contains i :: maskL (pre ++ maskKs i (x :: m)) (i + 1) m.length = x :: m
    cases x with
    | true =>
      have h1 : (pre ++ maskKs i (true :: m)).contains i = true := by simp [maskKs]
      rw [h1]
      have : pre ++ maskKs i (true :: m) = (pre ++ [i]) ++ maskKs (i + 1) m := by simp [maskKs]
      rw [this, maskL_maskKs m (i + 1) (pre ++ [i]) (fun k hk => by
        rcases List.mem_append.1 hk with hk | hk
        · have := h k hk; omega
        · simp at hk; omega)]
    | false =>
      have h1 : (pre ++ maskKs i (false :: m)).contains i = false := by
        cases hc : (pre ++ maskKs i (false :: m)).contains i with
        | false => rfl
        | true =>
          have : i ∈ pre ++ maskKs i (false :: m) := by simpa using hc
          rcases List.mem_append.1 this with hk | hk
          · have := h i hk; omega
          · have := maskKs_ge (m := m) (i := i + 1) hk; omega
      rw [h1]
      have : pre ++ maskKs i (false :: m) = pre ++ maskKs (i + 1) m := by simp [maskKs]
      rw [this, maskL_maskKs m (i + 1) pre (fun k hk => by have := h k hk; omega)]
theorem headK_mask {α : Type} (m : List Bool) (ls : List Nat) (F : Fr) (k : Fr → α) : headK (maskKs 0 m) ls m F k = k (F.norm (maskKs 0 m) ls) := by
  have h := maskL_maskKs m 0 [] (fun k hk => by cases hk)
  rw [List.nil_append] at h
  have := headK_eq (maskKs 0 m) ls m.length F k
  rw [h] at this
  exact this

/-- what is forgotten is forgotten. -/
theorem Fin.norm {cx : Cx} {fn : Func} {K : List TItem} {F : Fr} {res : ARes} {bx : List (List Cell)} {ks ls : List Nat} (h : Fin cx fn K (F.norm ks ls) res bx) : Fin cx fn K F res bx := by
  intro G0 w0 G w a hlv hr hg hd
  obtain ⟨G', r1, g1⟩ := norm_rel hr ks ls
  exact h G0 w0 G' w a hlv r1 (hg.trans g1) hd

/-- a cell seen more generally: what is not there as an array with nothing in it (of that size of a row), or as rows that are read alone; an array as rows that are read alone. -/
def Fr.co (F : Fr) (p : Pl) : Option Nat → Option Fr
  | some sz => match F.get p with
    | some .nil => match F.set p .dead with
      | some F1 => (F1.kill p).set p (.own sz [])
      | none => none
    | _ => none
  | none => match F.get p with
    | some .nil => F.set p (.imm [])
    | some (.own _ rows) => F.set p (.imm (immRs rows))
    | _ => none
def Fr.cos (F : Fr) : List (Pl × Option Nat) → Option Fr
  | [] => some F
  | (p, s) :: l => match F.co p s with
    | some F' => F'.cos l
    | none => none

theorem Val.back {G G' : Gh} {w : World} {F F' : Fr} {ts : Array Value} {p : Pl} {u : Value} (hγ : G'.γ p.key = G.γ p.key) (ht : ∀ k : Nat, (F'.slots[k]?).map AV.tag = (F.slots[k]?).map AV.tag)
    (h : Val G' w F' ts p u) : Val G w F ts p u := by
  rcases h with ⟨hi, x, vs, T, e1, e2, e3⟩ | ⟨hn, k, v, V, e1, e2, e3, e4⟩
  · exact .inl ⟨hi, x, vs, T, by rw [← hγ]; exact e1, e2, e3⟩
  · have h1 := ht k
    rw [e2] at h1
    cases hk : F.slots[k]? with
    | none => simp [hk] at h1
    | some v0 =>
      simp only [hk, Option.map_some, Option.some.injEq] at h1
      exact .inr ⟨hn, k, v0, V, e1, hk, e3, by rw [← h1]; exact e4⟩

theorem mapC_tags (F : Fr) (f : Cell → Cell) (k : Nat) : ((F.mapC f).slots[k]?).map AV.tag = (F.slots[k]?).map AV.tag := by
  simp only [Fr.mapC, List.getElem?_map, Option.map_map]
  rfl

theorem co_sound {G : Gh} {w : World} {F F' : Fr} {ts : Array Value} (h : RelF G w F ts) {p : Pl} {s : Option Nat} (e : F.co p s = some F') : ∃ G', RelF G' w F' ts ∧ Gain G w G' w := by
  have val : ∀ c, F.get p = some c → ∀ u, Val G w F ts p u → (c = .dead ∧ ¬ p.key.inHeap) ∨ Sh G w p c u := by
    intro c hg u hu
    obtain ⟨u0, hu0, hs⟩ := h.val hg
    rw [hu.unique hu0]; exact hs
  cases s with
  | none =>
    simp only [Fr.co] at e
    split at e
    · rename_i hg
      refine ⟨G, h.set (Fr.setTo e) (fun _ => rfl) (fun u hu => .inr ?_) (Tree.flat (by intros; simp)), Gain.refl G w⟩
      rcases val _ hg u hu with ⟨hx, _⟩ | hx
      · cases hx
      · cases hx; exact .immE none 0
    · rename_i zz rows hg
      obtain ⟨a1, a2, _, _⟩ := h.freezeAt hg (Fr.setTo e)
      exact ⟨_, a1, a2⟩
    · cases e
  | some sz =>
    simp only [Fr.co] at e
    split at e
    · rename_i hg
      split at e
      · rename_i F1 hset
        have st := Fr.setTo hset
        have r1 := h.empty st
        have r2 := r1.mapC (killC_cases p)
        let Y : Nat → Nat → Option (Option Pl) := fun r o => if r = p.r ∧ o = p.o then some none else none
        have hY : ∀ r o x, Y r o ≠ some (some x) := by
          intro r o x e
          simp only [Y] at e
          split at e <;> simp at e
        have r3 : RelF (G.mv p.key Y) w (F1.kill p) ts := r2.mv p.key (Y := Y) (fun r o r' o' x x' π π' e => absurd e (hY r o x)) (fun r o π hr => by
          have : r = p.r ∧ o = p.o := by
            simp only [Y] at hr
            split at hr
            · assumption
            · exact absurd rfl hr
          obtain ⟨rfl, rfl⟩ := this
          exact kill_free r1 st.new π) (fun r o x π e => absurd e (hY r o x))
        have hsp : splitKey p.key p.toKey = some (p.r, p.o, []) := splitKey_eq.2 rfl
        have hγ : (G.mv p.key Y).γ p.toKey = none := by simp [Gh.mv, hsp, Y]
        have hk : (G.mv p.key Y).γ p.key = G.γ p.key := mv_same (fun r o π e => by
          have := congrArg (fun k => k.path.length) e
          simp [Pl.under] at this) (fun r o x π e => absurd e (hY r o x))
        have st2 := Fr.setTo e
        refine ⟨_, r3.set st2 (fun _ => rfl) (fun u hu => .inr ?_) (fun rest rows e => ?_), Gain.mv p.key Y⟩
        · have hu' : Val G w F ts p u := hu.back hk (fun k => by rw [Fr.kill, mapC_tags, st.tags])
          rcases val _ hg u hu' with ⟨hx, _⟩ | hx
          · cases hx
          · cases hx; exact .inl ⟨hγ, rfl, rfl⟩
        · cases rest with
          | nil =>
            simp only [subR, getR, Option.some.injEq] at e
            subst e
            exact .inl ⟨hγ, rfl, by simp [Pl.under]⟩
          | cons y rest => obtain ⟨a, b⟩ := y; simp [subR, getR, cellAt] at e
      · cases e
    · cases e

theorem Fin.cos {cx : Cx} {fn : Func} {K : List TItem} {res : ARes} {bx : List (List Cell)} : ∀ {cs : List (Pl × Option Nat)} {F F' : Fr}, F.cos cs = some F' → Fin cx fn K F' res bx → Fin cx fn K F res bx
  | [], F, F', e, h => by
    simp only [Fr.cos, Option.some.injEq] at e
    subst e; exact h
  | (p, s) :: l, F, F', e, h => by
    simp only [Fr.cos] at e
    split at e
    · rename_i F1 h1
      have := Fin.cos e h
      intro G0 w0 G w a hlv hr hg hd
      obtain ⟨G', r1, g1⟩ := co_sound hr h1
      exact this G0 w0 G' w a hlv r1 (hg.trans g1.w) hd
    · cases e

/-- a stretch, and what is forgotten behind it: of the slots those of the mask, and some boxes; some cells are seen more generally. -/
noncomputable def mcut (cx : Cx) (fn : Func) (nb n : Nat) (K : List TItem) (F : Fr) (ad : Advs) (m : List Bool) (ls : List Nat) (cs : List (Pl × Option Nat)) : Option (TStop × List Prop) := match mgo cx fn nb n K F ad with
  | some (.at K F, ps) => headK (maskKs 0 m) ls m F fun F => match F.cos cs with
    | some F => some (.at K F, ps)
    | none => none
  | _ => none

theorem mgo_fin {cx : Cx} {fn : Func} {nb : Nat} (hmix : cx.P.follows .mixedOrders = true) {res : ARes} {bx : List (List Cell)} {n : Nat} {K : List TItem} {F : Fr} {ad : Advs} {ps : List Prop}
    (e : mgo cx fn nb n K F ad = some (.fin res bx, ps)) (hp : AllP ps) : Fin cx fn K F res bx := mgo_sound hmix e hp.mem ⟨rfl, rfl⟩
theorem mgo_at {cx : Cx} {fn : Func} {nb : Nat} (hmix : cx.P.follows .mixedOrders = true) {res : ARes} {bx : List (List Cell)} {n : Nat} {K K' : List TItem} {F F' : Fr} {ad : Advs} {ps : List Prop} {m : List Bool} {ls : List Nat} {cs : List (Pl × Option Nat)}
    (h : Fin cx fn K' F' res bx) (e : mcut cx fn nb n K F ad m ls cs = some (.at K' F', ps)) (hp : AllP ps) : Fin cx fn K F res bx := by
  unfold mcut at e
  split at e
  · rename_i K1 F1 qs h1
    rw [headK_mask] at e
    split at e
    · rename_i F2 h2
      simp only [Option.some.injEq, Prod.mk.injEq, TStop.at.injEq] at e
      obtain ⟨⟨rfl, rfl⟩, rfl⟩ := e
      exact mgo_sound hmix h1 hp.mem (Fin.cos h2 h).norm
    · cases e
  · cases e

/-- what is still to be done at a place of a body: the way to it through the code (0, 1: the first, the second part), and there: 2 the part itself, 3 what follows it, 4 a loop's next round. -/
def kAt : Code → List Nat → List TItem → List TItem
  | c, 2 :: _, K => .code c :: K
  | _, 3 :: _, K => K
  | .loop b, 4 :: _, K => .inLoop b :: K
  | .seq a b, 0 :: p, K => kAt a p (.code b :: K)
  | .seq _ b, 1 :: p, K => kAt b p K
  | .cond _ a _, 0 :: p, K => kAt a p K
  | .cond _ _ b, 1 :: p, K => kAt b p K
  | .block id b, 0 :: p, K => kAt b p (.inBlock id :: K)
  | .loop b, 0 :: p, K => kAt b p (.inLoop b :: K)
  | _, _, _ => []

/-! functions by steps -/
def itS {S R : Type} (step : Nat → (S → Option R) → S → Option R) : Nat → S → Option R
  | 0, _ => none
  | k + 1, s => step k (itS step k) s
theorem itS_ok {S R : Type} {step : Nat → (S → Option R) → S → Option R} {P : S → R → Prop}
    (h : ∀ k rec, (∀ s r, rec s = some r → P s r) → ∀ s r, step k rec s = some r → P s r) : ∀ k s r, itS step k s = some r → P s r
  | 0, s, r, e => by cases e
  | k + 1, s, r, e => h k (itS step k) (itS_ok h k) s r e

abbrev Rs := List (List Cell)
abbrev Es := List (Value × List Cell)
abbrev ic (n : Int) : Cell := .val (.int .i64 n)
abbrev uc (n : Int) : Cell := .val (.int .u64 n)
abbrev bc (b : Bool) : Cell := .val (.bool b)
def strB (l : List Nat) : ByteArray := ⟨(l.map UInt8.ofNat).toArray⟩
def gd {α : Type} (b : Bool) (x : Option α) : Option α := bif b then x else none
def ixR {α : Type} (rows : Rs) (n : Int) (k : List Cell → Option α) : Option α := bif decide (0 ≤ n) then (rows[n.toNat]?).bind k else none
def optC {α β : Type} (o : Option α) (z : Option β) (k : α → Option β) : Option β := match o with
  | none => z
  | some x => k x
def altC {α β γ : Type} (v : α ⊕ β) (f : α → Option γ) (g : β → Option γ) : Option γ := match v with
  | .inl a => f a
  | .inr b => g b

theorem bif_or {α : Type} {b : Bool} {x y : Option α} {r : α} (h : (bif b then x else y) = some r) : (b = true ∧ x = some r) ∨ (b = false ∧ y = some r) := by
  cases b
  · exact .inr ⟨rfl, h⟩
  · exact .inl ⟨rfl, h⟩
theorem gd_or {α : Type} {b : Bool} {x : Option α} {r : α} (h : gd b x = some r) : b = true ∧ x = some r := by
  cases b
  · cases h
  · exact ⟨rfl, h⟩
theorem bd_or {α β : Type} {o : Option α} {k : α → Option β} {r : β} (h : o.bind k = some r) : ∃ v, o = some v ∧ k v = some r := by
  cases o with
  | none => cases h
  | some v => exact ⟨v, rfl, h⟩
theorem optC_or {α β : Type} {o : Option α} {z : Option β} {k : α → Option β} {r : β} (h : optC o z k = some r) : (∃ x, o = some x ∧ k x = some r) ∨ (o = none ∧ z = some r) := by
  cases o with
  | none => exact .inr ⟨rfl, h⟩
  | some x => exact .inl ⟨x, rfl, h⟩
theorem altC_or {α β γ : Type} {v : α ⊕ β} {f : α → Option γ} {g : β → Option γ} {r : γ} (h : altC v f g = some r) : (∃ a, v = .inl a ∧ f a = some r) ∨ (∃ b, v = .inr b ∧ g b = some r) := by
  cases v with
  | inl a => exact .inl ⟨a, rfl, h⟩
  | inr b => exact .inr ⟨b, rfl, h⟩
theorem ixR_or {α : Type} {rows : Rs} {n : Int} {k : List Cell → Option α} {r : α} (h : ixR rows n k = some r) :
    ∃ row, (0 ≤ n ∧ rows[n.toNat]? = some row) ∧ k row = some r := by
  unfold ixR at h
  obtain ⟨h1, h2⟩ | ⟨_, h2⟩ := bif_or h
  · obtain ⟨row, h3, h4⟩ := bd_or h2
    exact ⟨row, ⟨of_decide_eq_true h1, h3⟩, h4⟩
  · cases h2
theorem ix_row {rows : Rs} {n : Int} {row : List Cell} {sz : Nat} (h : 0 ≤ n ∧ rows[n.toNat]? = some row) (hs : row.length = sz) : 0 ≤ n ∧ rows[n.toNat]? = some row ∧ row.length = sz := ⟨h.1, h.2, hs⟩
theorem ix_bnd {rows : Rs} {n : Int} {row : List Cell} (h : 0 ≤ n ∧ rows[n.toNat]? = some row) : 0 ≤ n ∧ n < rows.length := by
  have := (List.getElem?_eq_some_iff.1 h.2).1
  exact ⟨h.1, by omega⟩
theorem ix_cell {rows : Rs} {n : Int} {row : List Cell} {o : Nat} {c : Cell} (h : 0 ≤ n ∧ rows[n.toNat]? = some row) (hc : row[o]? = some c) : ∃ c0, cellAt rows n.toNat o = some c0 :=
  ⟨c, by simp only [cellAt, h.2, Option.bind_some, hc]⟩
theorem ix_at {rows : Rs} {n : Int} {row : List Cell} {o : Nat} {c : Cell} (h : 0 ≤ n ∧ rows[n.toNat]? = some row) (hc : row[o]? = some c) : cellAt rows n.toNat o = some c := by
  simp only [cellAt, h.2, Option.bind_some, hc]
theorem row_set {rows : Rs} {n : Int} {row : List Cell} {o : Nat} {c : Cell} (h : 0 ≤ n ∧ rows[n.toNat]? = some row) : 0 ≤ n ∧ (setRow rows n.toNat o c)[n.toNat]? = some (row.set o c) := by
  refine ⟨h.1, ?_⟩
  have hlt := (List.getElem?_eq_some_iff.1 h.2).1
  simp only [setRow, h.2, Option.getD_some]
  rw [List.getElem?_set_self hlt]
theorem st_ok {rows : Rs} {r o : Nat} {c : Cell} (h : cellAt rows r o = some c) : ∃ c0, cellAt rows r o = some c0 := ⟨c, h⟩
def slOk (l h : Int) (rows : Rs) (sz : Nat) : Bool := decide (0 ≤ l ∧ l ≤ h ∧ h ≤ rows.length ∧ (rows.head?.all (·.length == sz)) = true)
def mkOk (n m : Int) (bytes sz : Nat) : Bool := 0 ≤ n && n ≤ m && m * bytes ≤ 140737488355328 && m ≤ lim && decide (0 < sz)
def apOk (bytes sz : Nat) (rows more : Rs) : Bool := (rows.length + more.length) * bytes ≤ 140737488355328 && rows.length + more.length ≤ lim && 0 < sz && true && more.head?.all (·.length == sz) && true
def tup2 {α0 α1 γ : Type} (v : α0 × α1) (k : α0 → α1 → Option γ) : Option γ := k v.1 v.2
theorem tup2_or {α0 α1 γ : Type} {v : α0 × α1} {k : α0 → α1 → Option γ} {r : γ} (h : tup2 v k = some r) : ∃ a0 a1, v = (a0, a1) ∧ k a0 a1 = some r := ⟨v.1, v.2, rfl, h⟩
def tup3 {α0 α1 α2 γ : Type} (v : α0 × α1 × α2) (k : α0 → α1 → α2 → Option γ) : Option γ := k v.1 v.2.1 v.2.2
theorem tup3_or {α0 α1 α2 γ : Type} {v : α0 × α1 × α2} {k : α0 → α1 → α2 → Option γ} {r : γ} (h : tup3 v k = some r) : ∃ a0 a1 a2, v = (a0, a1, a2) ∧ k a0 a1 a2 = some r := ⟨v.1, v.2.1, v.2.2, rfl, h⟩
def tup4 {α0 α1 α2 α3 γ : Type} (v : α0 × α1 × α2 × α3) (k : α0 → α1 → α2 → α3 → Option γ) : Option γ := k v.1 v.2.1 v.2.2.1 v.2.2.2
theorem tup4_or {α0 α1 α2 α3 γ : Type} {v : α0 × α1 × α2 × α3} {k : α0 → α1 → α2 → α3 → Option γ} {r : γ} (h : tup4 v k = some r) : ∃ a0 a1 a2 a3, v = (a0, a1, a2, a3) ∧ k a0 a1 a2 a3 = some r := ⟨v.1, v.2.1, v.2.2.1, v.2.2.2, rfl, h⟩
def tup5 {α0 α1 α2 α3 α4 γ : Type} (v : α0 × α1 × α2 × α3 × α4) (k : α0 → α1 → α2 → α3 → α4 → Option γ) : Option γ := k v.1 v.2.1 v.2.2.1 v.2.2.2.1 v.2.2.2.2
theorem tup5_or {α0 α1 α2 α3 α4 γ : Type} {v : α0 × α1 × α2 × α3 × α4} {k : α0 → α1 → α2 → α3 → α4 → Option γ} {r : γ} (h : tup5 v k = some r) : ∃ a0 a1 a2 a3 a4, v = (a0, a1, a2, a3, a4) ∧ k a0 a1 a2 a3 a4 = some r := ⟨v.1, v.2.1, v.2.2.1, v.2.2.2.1, v.2.2.2.2, rfl, h⟩
def tup6 {α0 α1 α2 α3 α4 α5 γ : Type} (v : α0 × α1 × α2 × α3 × α4 × α5) (k : α0 → α1 → α2 → α3 → α4 → α5 → Option γ) : Option γ := k v.1 v.2.1 v.2.2.1 v.2.2.2.1 v.2.2.2.2.1 v.2.2.2.2.2
theorem tup6_or {α0 α1 α2 α3 α4 α5 γ : Type} {v : α0 × α1 × α2 × α3 × α4 × α5} {k : α0 → α1 → α2 → α3 → α4 → α5 → Option γ} {r : γ} (h : tup6 v k = some r) : ∃ a0 a1 a2 a3 a4 a5, v = (a0, a1, a2, a3, a4, a5) ∧ k a0 a1 a2 a3 a4 a5 = some r := ⟨v.1, v.2.1, v.2.2.1, v.2.2.2.1, v.2.2.2.2.1, v.2.2.2.2.2, rfl, h⟩
def tup7 {α0 α1 α2 α3 α4 α5 α6 γ : Type} (v : α0 × α1 × α2 × α3 × α4 × α5 × α6) (k : α0 → α1 → α2 → α3 → α4 → α5 → α6 → Option γ) : Option γ := k v.1 v.2.1 v.2.2.1 v.2.2.2.1 v.2.2.2.2.1 v.2.2.2.2.2.1 v.2.2.2.2.2.2
theorem tup7_or {α0 α1 α2 α3 α4 α5 α6 γ : Type} {v : α0 × α1 × α2 × α3 × α4 × α5 × α6} {k : α0 → α1 → α2 → α3 → α4 → α5 → α6 → Option γ} {r : γ} (h : tup7 v k = some r) : ∃ a0 a1 a2 a3 a4 a5 a6, v = (a0, a1, a2, a3, a4, a5, a6) ∧ k a0 a1 a2 a3 a4 a5 a6 = some r := ⟨v.1, v.2.1, v.2.2.1, v.2.2.2.1, v.2.2.2.2.1, v.2.2.2.2.2.1, v.2.2.2.2.2.2, rfl, h⟩
def tup8 {α0 α1 α2 α3 α4 α5 α6 α7 γ : Type} (v : α0 × α1 × α2 × α3 × α4 × α5 × α6 × α7) (k : α0 → α1 → α2 → α3 → α4 → α5 → α6 → α7 → Option γ) : Option γ := k v.1 v.2.1 v.2.2.1 v.2.2.2.1 v.2.2.2.2.1 v.2.2.2.2.2.1 v.2.2.2.2.2.2.1 v.2.2.2.2.2.2.2
theorem tup8_or {α0 α1 α2 α3 α4 α5 α6 α7 γ : Type} {v : α0 × α1 × α2 × α3 × α4 × α5 × α6 × α7} {k : α0 → α1 → α2 → α3 → α4 → α5 → α6 → α7 → Option γ} {r : γ} (h : tup8 v k = some r) : ∃ a0 a1 a2 a3 a4 a5 a6 a7, v = (a0, a1, a2, a3, a4, a5, a6, a7) ∧ k a0 a1 a2 a3 a4 a5 a6 a7 = some r := ⟨v.1, v.2.1, v.2.2.1, v.2.2.2.1, v.2.2.2.2.1, v.2.2.2.2.2.1, v.2.2.2.2.2.2.1, v.2.2.2.2.2.2.2, rfl, h⟩
def tup9 {α0 α1 α2 α3 α4 α5 α6 α7 α8 γ : Type} (v : α0 × α1 × α2 × α3 × α4 × α5 × α6 × α7 × α8) (k : α0 → α1 → α2 → α3 → α4 → α5 → α6 → α7 → α8 → Option γ) : Option γ := k v.1 v.2.1 v.2.2.1 v.2.2.2.1 v.2.2.2.2.1 v.2.2.2.2.2.1 v.2.2.2.2.2.2.1 v.2.2.2.2.2.2.2.1 v.2.2.2.2.2.2.2.2
theorem tup9_or {α0 α1 α2 α3 α4 α5 α6 α7 α8 γ : Type} {v : α0 × α1 × α2 × α3 × α4 × α5 × α6 × α7 × α8} {k : α0 → α1 → α2 → α3 → α4 → α5 → α6 → α7 → α8 → Option γ} {r : γ} (h : tup9 v k = some r) : ∃ a0 a1 a2 a3 a4 a5 a6 a7 a8, v = (a0, a1, a2, a3, a4, a5, a6, a7, a8) ∧ k a0 a1 a2 a3 a4 a5 a6 a7 a8 = some r := ⟨v.1, v.2.1, v.2.2.1, v.2.2.2.1, v.2.2.2.2.1, v.2.2.2.2.2.1, v.2.2.2.2.2.2.1, v.2.2.2.2.2.2.2.1, v.2.2.2.2.2.2.2.2, rfl, h⟩
def tup10 {α0 α1 α2 α3 α4 α5 α6 α7 α8 α9 γ : Type} (v : α0 × α1 × α2 × α3 × α4 × α5 × α6 × α7 × α8 × α9) (k : α0 → α1 → α2 → α3 → α4 → α5 → α6 → α7 → α8 → α9 → Option γ) : Option γ := k v.1 v.2.1 v.2.2.1 v.2.2.2.1 v.2.2.2.2.1 v.2.2.2.2.2.1 v.2.2.2.2.2.2.1 v.2.2.2.2.2.2.2.1 v.2.2.2.2.2.2.2.2.1 v.2.2.2.2.2.2.2.2.2
theorem tup10_or {α0 α1 α2 α3 α4 α5 α6 α7 α8 α9 γ : Type} {v : α0 × α1 × α2 × α3 × α4 × α5 × α6 × α7 × α8 × α9} {k : α0 → α1 → α2 → α3 → α4 → α5 → α6 → α7 → α8 → α9 → Option γ} {r : γ} (h : tup10 v k = some r) : ∃ a0 a1 a2 a3 a4 a5 a6 a7 a8 a9, v = (a0, a1, a2, a3, a4, a5, a6, a7, a8, a9) ∧ k a0 a1 a2 a3 a4 a5 a6 a7 a8 a9 = some r := ⟨v.1, v.2.1, v.2.2.1, v.2.2.2.1, v.2.2.2.2.1, v.2.2.2.2.2.1, v.2.2.2.2.2.2.1, v.2.2.2.2.2.2.2.1, v.2.2.2.2.2.2.2.2.1, v.2.2.2.2.2.2.2.2.2, rfl, h⟩
def tup11 {α0 α1 α2 α3 α4 α5 α6 α7 α8 α9 α10 γ : Type} (v : α0 × α1 × α2 × α3 × α4 × α5 × α6 × α7 × α8 × α9 × α10) (k : α0 → α1 → α2 → α3 → α4 → α5 → α6 → α7 → α8 → α9 → α10 → Option γ) : Option γ := k v.1 v.2.1 v.2.2.1 v.2.2.2.1 v.2.2.2.2.1 v.2.2.2.2.2.1 v.2.2.2.2.2.2.1 v.2.2.2.2.2.2.2.1 v.2.2.2.2.2.2.2.2.1 v.2.2.2.2.2.2.2.2.2.1 v.2.2.2.2.2.2.2.2.2.2
theorem tup11_or {α0 α1 α2 α3 α4 α5 α6 α7 α8 α9 α10 γ : Type} {v : α0 × α1 × α2 × α3 × α4 × α5 × α6 × α7 × α8 × α9 × α10} {k : α0 → α1 → α2 → α3 → α4 → α5 → α6 → α7 → α8 → α9 → α10 → Option γ} {r : γ} (h : tup11 v k = some r) : ∃ a0 a1 a2 a3 a4 a5 a6 a7 a8 a9 a10, v = (a0, a1, a2, a3, a4, a5, a6, a7, a8, a9, a10) ∧ k a0 a1 a2 a3 a4 a5 a6 a7 a8 a9 a10 = some r := ⟨v.1, v.2.1, v.2.2.1, v.2.2.2.1, v.2.2.2.2.1, v.2.2.2.2.2.1, v.2.2.2.2.2.2.1, v.2.2.2.2.2.2.2.1, v.2.2.2.2.2.2.2.2.1, v.2.2.2.2.2.2.2.2.2.1, v.2.2.2.2.2.2.2.2.2.2, rfl, h⟩
def tup12 {α0 α1 α2 α3 α4 α5 α6 α7 α8 α9 α10 α11 γ : Type} (v : α0 × α1 × α2 × α3 × α4 × α5 × α6 × α7 × α8 × α9 × α10 × α11) (k : α0 → α1 → α2 → α3 → α4 → α5 → α6 → α7 → α8 → α9 → α10 → α11 → Option γ) : Option γ := k v.1 v.2.1 v.2.2.1 v.2.2.2.1 v.2.2.2.2.1 v.2.2.2.2.2.1 v.2.2.2.2.2.2.1 v.2.2.2.2.2.2.2.1 v.2.2.2.2.2.2.2.2.1 v.2.2.2.2.2.2.2.2.2.1 v.2.2.2.2.2.2.2.2.2.2.1 v.2.2.2.2.2.2.2.2.2.2.2
theorem tup12_or {α0 α1 α2 α3 α4 α5 α6 α7 α8 α9 α10 α11 γ : Type} {v : α0 × α1 × α2 × α3 × α4 × α5 × α6 × α7 × α8 × α9 × α10 × α11} {k : α0 → α1 → α2 → α3 → α4 → α5 → α6 → α7 → α8 → α9 → α10 → α11 → Option γ} {r : γ} (h : tup12 v k = some r) : ∃ a0 a1 a2 a3 a4 a5 a6 a7 a8 a9 a10 a11, v = (a0, a1, a2, a3, a4, a5, a6, a7, a8, a9, a10, a11) ∧ k a0 a1 a2 a3 a4 a5 a6 a7 a8 a9 a10 a11 = some r := ⟨v.1, v.2.1, v.2.2.1, v.2.2.2.1, v.2.2.2.2.1, v.2.2.2.2.2.1, v.2.2.2.2.2.2.1, v.2.2.2.2.2.2.2.1, v.2.2.2.2.2.2.2.2.1, v.2.2.2.2.2.2.2.2.2.1, v.2.2.2.2.2.2.2.2.2.2.1, v.2.2.2.2.2.2.2.2.2.2.2, rfl, h⟩
def tup13 {α0 α1 α2 α3 α4 α5 α6 α7 α8 α9 α10 α11 α12 γ : Type} (v : α0 × α1 × α2 × α3 × α4 × α5 × α6 × α7 × α8 × α9 × α10 × α11 × α12) (k : α0 → α1 → α2 → α3 → α4 → α5 → α6 → α7 → α8 → α9 → α10 → α11 → α12 → Option γ) : Option γ := k v.1 v.2.1 v.2.2.1 v.2.2.2.1 v.2.2.2.2.1 v.2.2.2.2.2.1 v.2.2.2.2.2.2.1 v.2.2.2.2.2.2.2.1 v.2.2.2.2.2.2.2.2.1 v.2.2.2.2.2.2.2.2.2.1 v.2.2.2.2.2.2.2.2.2.2.1 v.2.2.2.2.2.2.2.2.2.2.2.1 v.2.2.2.2.2.2.2.2.2.2.2.2
theorem tup13_or {α0 α1 α2 α3 α4 α5 α6 α7 α8 α9 α10 α11 α12 γ : Type} {v : α0 × α1 × α2 × α3 × α4 × α5 × α6 × α7 × α8 × α9 × α10 × α11 × α12} {k : α0 → α1 → α2 → α3 → α4 → α5 → α6 → α7 → α8 → α9 → α10 → α11 → α12 → Option γ} {r : γ} (h : tup13 v k = some r) : ∃ a0 a1 a2 a3 a4 a5 a6 a7 a8 a9 a10 a11 a12, v = (a0, a1, a2, a3, a4, a5, a6, a7, a8, a9, a10, a11, a12) ∧ k a0 a1 a2 a3 a4 a5 a6 a7 a8 a9 a10 a11 a12 = some r := ⟨v.1, v.2.1, v.2.2.1, v.2.2.2.1, v.2.2.2.2.1, v.2.2.2.2.2.1, v.2.2.2.2.2.2.1, v.2.2.2.2.2.2.2.1, v.2.2.2.2.2.2.2.2.1, v.2.2.2.2.2.2.2.2.2.1, v.2.2.2.2.2.2.2.2.2.2.1, v.2.2.2.2.2.2.2.2.2.2.2.1, v.2.2.2.2.2.2.2.2.2.2.2.2, rfl, h⟩
def tup14 {α0 α1 α2 α3 α4 α5 α6 α7 α8 α9 α10 α11 α12 α13 γ : Type} (v : α0 × α1 × α2 × α3 × α4 × α5 × α6 × α7 × α8 × α9 × α10 × α11 × α12 × α13) (k : α0 → α1 → α2 → α3 → α4 → α5 → α6 → α7 → α8 → α9 → α10 → α11 → α12 → α13 → Option γ) : Option γ := k v.1 v.2.1 v.2.2.1 v.2.2.2.1 v.2.2.2.2.1 v.2.2.2.2.2.1 v.2.2.2.2.2.2.1 v.2.2.2.2.2.2.2.1 v.2.2.2.2.2.2.2.2.1 v.2.2.2.2.2.2.2.2.2.1 v.2.2.2.2.2.2.2.2.2.2.1 v.2.2.2.2.2.2.2.2.2.2.2.1 v.2.2.2.2.2.2.2.2.2.2.2.2.1 v.2.2.2.2.2.2.2.2.2.2.2.2.2
theorem tup14_or {α0 α1 α2 α3 α4 α5 α6 α7 α8 α9 α10 α11 α12 α13 γ : Type} {v : α0 × α1 × α2 × α3 × α4 × α5 × α6 × α7 × α8 × α9 × α10 × α11 × α12 × α13} {k : α0 → α1 → α2 → α3 → α4 → α5 → α6 → α7 → α8 → α9 → α10 → α11 → α12 → α13 → Option γ} {r : γ} (h : tup14 v k = some r) : ∃ a0 a1 a2 a3 a4 a5 a6 a7 a8 a9 a10 a11 a12 a13, v = (a0, a1, a2, a3, a4, a5, a6, a7, a8, a9, a10, a11, a12, a13) ∧ k a0 a1 a2 a3 a4 a5 a6 a7 a8 a9 a10 a11 a12 a13 = some r := ⟨v.1, v.2.1, v.2.2.1, v.2.2.2.1, v.2.2.2.2.1, v.2.2.2.2.2.1, v.2.2.2.2.2.2.1, v.2.2.2.2.2.2.2.1, v.2.2.2.2.2.2.2.2.1, v.2.2.2.2.2.2.2.2.2.1, v.2.2.2.2.2.2.2.2.2.2.1, v.2.2.2.2.2.2.2.2.2.2.2.1, v.2.2.2.2.2.2.2.2.2.2.2.2.1, v.2.2.2.2.2.2.2.2.2.2.2.2.2, rfl, h⟩
def tup15 {α0 α1 α2 α3 α4 α5 α6 α7 α8 α9 α10 α11 α12 α13 α14 γ : Type} (v : α0 × α1 × α2 × α3 × α4 × α5 × α6 × α7 × α8 × α9 × α10 × α11 × α12 × α13 × α14) (k : α0 → α1 → α2 → α3 → α4 → α5 → α6 → α7 → α8 → α9 → α10 → α11 → α12 → α13 → α14 → Option γ) : Option γ := k v.1 v.2.1 v.2.2.1 v.2.2.2.1 v.2.2.2.2.1 v.2.2.2.2.2.1 v.2.2.2.2.2.2.1 v.2.2.2.2.2.2.2.1 v.2.2.2.2.2.2.2.2.1 v.2.2.2.2.2.2.2.2.2.1 v.2.2.2.2.2.2.2.2.2.2.1 v.2.2.2.2.2.2.2.2.2.2.2.1 v.2.2.2.2.2.2.2.2.2.2.2.2.1 v.2.2.2.2.2.2.2.2.2.2.2.2.2.1 v.2.2.2.2.2.2.2.2.2.2.2.2.2.2
theorem tup15_or {α0 α1 α2 α3 α4 α5 α6 α7 α8 α9 α10 α11 α12 α13 α14 γ : Type} {v : α0 × α1 × α2 × α3 × α4 × α5 × α6 × α7 × α8 × α9 × α10 × α11 × α12 × α13 × α14} {k : α0 → α1 → α2 → α3 → α4 → α5 → α6 → α7 → α8 → α9 → α10 → α11 → α12 → α13 → α14 → Option γ} {r : γ} (h : tup15 v k = some r) : ∃ a0 a1 a2 a3 a4 a5 a6 a7 a8 a9 a10 a11 a12 a13 a14, v = (a0, a1, a2, a3, a4, a5, a6, a7, a8, a9, a10, a11, a12, a13, a14) ∧ k a0 a1 a2 a3 a4 a5 a6 a7 a8 a9 a10 a11 a12 a13 a14 = some r := ⟨v.1, v.2.1, v.2.2.1, v.2.2.2.1, v.2.2.2.2.1, v.2.2.2.2.2.1, v.2.2.2.2.2.2.1, v.2.2.2.2.2.2.2.1, v.2.2.2.2.2.2.2.2.1, v.2.2.2.2.2.2.2.2.2.1, v.2.2.2.2.2.2.2.2.2.2.1, v.2.2.2.2.2.2.2.2.2.2.2.1, v.2.2.2.2.2.2.2.2.2.2.2.2.1, v.2.2.2.2.2.2.2.2.2.2.2.2.2.1, v.2.2.2.2.2.2.2.2.2.2.2.2.2.2, rfl, h⟩
def tup16 {α0 α1 α2 α3 α4 α5 α6 α7 α8 α9 α10 α11 α12 α13 α14 α15 γ : Type} (v : α0 × α1 × α2 × α3 × α4 × α5 × α6 × α7 × α8 × α9 × α10 × α11 × α12 × α13 × α14 × α15) (k : α0 → α1 → α2 → α3 → α4 → α5 → α6 → α7 → α8 → α9 → α10 → α11 → α12 → α13 → α14 → α15 → Option γ) : Option γ := k v.1 v.2.1 v.2.2.1 v.2.2.2.1 v.2.2.2.2.1 v.2.2.2.2.2.1 v.2.2.2.2.2.2.1 v.2.2.2.2.2.2.2.1 v.2.2.2.2.2.2.2.2.1 v.2.2.2.2.2.2.2.2.2.1 v.2.2.2.2.2.2.2.2.2.2.1 v.2.2.2.2.2.2.2.2.2.2.2.1 v.2.2.2.2.2.2.2.2.2.2.2.2.1 v.2.2.2.2.2.2.2.2.2.2.2.2.2.1 v.2.2.2.2.2.2.2.2.2.2.2.2.2.2.1 v.2.2.2.2.2.2.2.2.2.2.2.2.2.2.2
theorem tup16_or {α0 α1 α2 α3 α4 α5 α6 α7 α8 α9 α10 α11 α12 α13 α14 α15 γ : Type} {v : α0 × α1 × α2 × α3 × α4 × α5 × α6 × α7 × α8 × α9 × α10 × α11 × α12 × α13 × α14 × α15} {k : α0 → α1 → α2 → α3 → α4 → α5 → α6 → α7 → α8 → α9 → α10 → α11 → α12 → α13 → α14 → α15 → Option γ} {r : γ} (h : tup16 v k = some r) : ∃ a0 a1 a2 a3 a4 a5 a6 a7 a8 a9 a10 a11 a12 a13 a14 a15, v = (a0, a1, a2, a3, a4, a5, a6, a7, a8, a9, a10, a11, a12, a13, a14, a15) ∧ k a0 a1 a2 a3 a4 a5 a6 a7 a8 a9 a10 a11 a12 a13 a14 a15 = some r := ⟨v.1, v.2.1, v.2.2.1, v.2.2.2.1, v.2.2.2.2.1, v.2.2.2.2.2.1, v.2.2.2.2.2.2.1, v.2.2.2.2.2.2.2.1, v.2.2.2.2.2.2.2.2.1, v.2.2.2.2.2.2.2.2.2.1, v.2.2.2.2.2.2.2.2.2.2.1, v.2.2.2.2.2.2.2.2.2.2.2.1, v.2.2.2.2.2.2.2.2.2.2.2.2.1, v.2.2.2.2.2.2.2.2.2.2.2.2.2.1, v.2.2.2.2.2.2.2.2.2.2.2.2.2.2.1, v.2.2.2.2.2.2.2.2.2.2.2.2.2.2.2, rfl, h⟩
def tup17 {α0 α1 α2 α3 α4 α5 α6 α7 α8 α9 α10 α11 α12 α13 α14 α15 α16 γ : Type} (v : α0 × α1 × α2 × α3 × α4 × α5 × α6 × α7 × α8 × α9 × α10 × α11 × α12 × α13 × α14 × α15 × α16) (k : α0 → α1 → α2 → α3 → α4 → α5 → α6 → α7 → α8 → α9 → α10 → α11 → α12 → α13 → α14 → α15 → α16 → Option γ) : Option γ := k v.1 v.2.1 v.2.2.1 v.2.2.2.1 v.2.2.2.2.1 v.2.2.2.2.2.1 v.2.2.2.2.2.2.1 v.2.2.2.2.2.2.2.1 v.2.2.2.2.2.2.2.2.1 v.2.2.2.2.2.2.2.2.2.1 v.2.2.2.2.2.2.2.2.2.2.1 v.2.2.2.2.2.2.2.2.2.2.2.1 v.2.2.2.2.2.2.2.2.2.2.2.2.1 v.2.2.2.2.2.2.2.2.2.2.2.2.2.1 v.2.2.2.2.2.2.2.2.2.2.2.2.2.2.1 v.2.2.2.2.2.2.2.2.2.2.2.2.2.2.2.1 v.2.2.2.2.2.2.2.2.2.2.2.2.2.2.2.2
theorem tup17_or {α0 α1 α2 α3 α4 α5 α6 α7 α8 α9 α10 α11 α12 α13 α14 α15 α16 γ : Type} {v : α0 × α1 × α2 × α3 × α4 × α5 × α6 × α7 × α8 × α9 × α10 × α11 × α12 × α13 × α14 × α15 × α16} {k : α0 → α1 → α2 → α3 → α4 → α5 → α6 → α7 → α8 → α9 → α10 → α11 → α12 → α13 → α14 → α15 → α16 → Option γ} {r : γ} (h : tup17 v k = some r) : ∃ a0 a1 a2 a3 a4 a5 a6 a7 a8 a9 a10 a11 a12 a13 a14 a15 a16, v = (a0, a1, a2, a3, a4, a5, a6, a7, a8, a9, a10, a11, a12, a13, a14, a15, a16) ∧ k a0 a1 a2 a3 a4 a5 a6 a7 a8 a9 a10 a11 a12 a13 a14 a15 a16 = some r := ⟨v.1, v.2.1, v.2.2.1, v.2.2.2.1, v.2.2.2.2.1, v.2.2.2.2.2.1, v.2.2.2.2.2.2.1, v.2.2.2.2.2.2.2.1, v.2.2.2.2.2.2.2.2.1, v.2.2.2.2.2.2.2.2.2.1, v.2.2.2.2.2.2.2.2.2.2.1, v.2.2.2.2.2.2.2.2.2.2.2.1, v.2.2.2.2.2.2.2.2.2.2.2.2.1, v.2.2.2.2.2.2.2.2.2.2.2.2.2.1, v.2.2.2.2.2.2.2.2.2.2.2.2.2.2.1, v.2.2.2.2.2.2.2.2.2.2.2.2.2.2.2.1, v.2.2.2.2.2.2.2.2.2.2.2.2.2.2.2.2, rfl, h⟩
def tup18 {α0 α1 α2 α3 α4 α5 α6 α7 α8 α9 α10 α11 α12 α13 α14 α15 α16 α17 γ : Type} (v : α0 × α1 × α2 × α3 × α4 × α5 × α6 × α7 × α8 × α9 × α10 × α11 × α12 × α13 × α14 × α15 × α16 × α17) (k : α0 → α1 → α2 → α3 → α4 → α5 → α6 → α7 → α8 → α9 → α10 → α11 → α12 → α13 → α14 → α15 → α16 → α17 → Option γ) : Option γ := k v.1 v.2.1 v.2.2.1 v.2.2.2.1 v.2.2.2.2.1 v.2.2.2.2.2.1 v.2.2.2.2.2.2.1 v.2.2.2.2.2.2.2.1 v.2.2.2.2.2.2.2.2.1 v.2.2.2.2.2.2.2.2.2.1 v.2.2.2.2.2.2.2.2.2.2.1 v.2.2.2.2.2.2.2.2.2.2.2.1 v.2.2.2.2.2.2.2.2.2.2.2.2.1 v.2.2.2.2.2.2.2.2.2.2.2.2.2.1 v.2.2.2.2.2.2.2.2.2.2.2.2.2.2.1 v.2.2.2.2.2.2.2.2.2.2.2.2.2.2.2.1 v.2.2.2.2.2.2.2.2.2.2.2.2.2.2.2.2.1 v.2.2.2.2.2.2.2.2.2.2.2.2.2.2.2.2.2
theorem tup18_or {α0 α1 α2 α3 α4 α5 α6 α7 α8 α9 α10 α11 α12 α13 α14 α15 α16 α17 γ : Type} {v : α0 × α1 × α2 × α3 × α4 × α5 × α6 × α7 × α8 × α9 × α10 × α11 × α12 × α13 × α14 × α15 × α16 × α17} {k : α0 → α1 → α2 → α3 → α4 → α5 → α6 → α7 → α8 → α9 → α10 → α11 → α12 → α13 → α14 → α15 → α16 → α17 → Option γ} {r : γ} (h : tup18 v k = some r) : ∃ a0 a1 a2 a3 a4 a5 a6 a7 a8 a9 a10 a11 a12 a13 a14 a15 a16 a17, v = (a0, a1, a2, a3, a4, a5, a6, a7, a8, a9, a10, a11, a12, a13, a14, a15, a16, a17) ∧ k a0 a1 a2 a3 a4 a5 a6 a7 a8 a9 a10 a11 a12 a13 a14 a15 a16 a17 = some r := ⟨v.1, v.2.1, v.2.2.1, v.2.2.2.1, v.2.2.2.2.1, v.2.2.2.2.2.1, v.2.2.2.2.2.2.1, v.2.2.2.2.2.2.2.1, v.2.2.2.2.2.2.2.2.1, v.2.2.2.2.2.2.2.2.2.1, v.2.2.2.2.2.2.2.2.2.2.1, v.2.2.2.2.2.2.2.2.2.2.2.1, v.2.2.2.2.2.2.2.2.2.2.2.2.1, v.2.2.2.2.2.2.2.2.2.2.2.2.2.1, v.2.2.2.2.2.2.2.2.2.2.2.2.2.2.1, v.2.2.2.2.2.2.2.2.2.2.2.2.2.2.2.1, v.2.2.2.2.2.2.2.2.2.2.2.2.2.2.2.2.1, v.2.2.2.2.2.2.2.2.2.2.2.2.2.2.2.2.2, rfl, h⟩
def tup19 {α0 α1 α2 α3 α4 α5 α6 α7 α8 α9 α10 α11 α12 α13 α14 α15 α16 α17 α18 γ : Type} (v : α0 × α1 × α2 × α3 × α4 × α5 × α6 × α7 × α8 × α9 × α10 × α11 × α12 × α13 × α14 × α15 × α16 × α17 × α18) (k : α0 → α1 → α2 → α3 → α4 → α5 → α6 → α7 → α8 → α9 → α10 → α11 → α12 → α13 → α14 → α15 → α16 → α17 → α18 → Option γ) : Option γ := k v.1 v.2.1 v.2.2.1 v.2.2.2.1 v.2.2.2.2.1 v.2.2.2.2.2.1 v.2.2.2.2.2.2.1 v.2.2.2.2.2.2.2.1 v.2.2.2.2.2.2.2.2.1 v.2.2.2.2.2.2.2.2.2.1 v.2.2.2.2.2.2.2.2.2.2.1 v.2.2.2.2.2.2.2.2.2.2.2.1 v.2.2.2.2.2.2.2.2.2.2.2.2.1 v.2.2.2.2.2.2.2.2.2.2.2.2.2.1 v.2.2.2.2.2.2.2.2.2.2.2.2.2.2.1 v.2.2.2.2.2.2.2.2.2.2.2.2.2.2.2.1 v.2.2.2.2.2.2.2.2.2.2.2.2.2.2.2.2.1 v.2.2.2.2.2.2.2.2.2.2.2.2.2.2.2.2.2.1 v.2.2.2.2.2.2.2.2.2.2.2.2.2.2.2.2.2.2
theorem tup19_or {α0 α1 α2 α3 α4 α5 α6 α7 α8 α9 α10 α11 α12 α13 α14 α15 α16 α17 α18 γ : Type} {v : α0 × α1 × α2 × α3 × α4 × α5 × α6 × α7 × α8 × α9 × α10 × α11 × α12 × α13 × α14 × α15 × α16 × α17 × α18} {k : α0 → α1 → α2 → α3 → α4 → α5 → α6 → α7 → α8 → α9 → α10 → α11 → α12 → α13 → α14 → α15 → α16 → α17 → α18 → Option γ} {r : γ} (h : tup19 v k = some r) : ∃ a0 a1 a2 a3 a4 a5 a6 a7 a8 a9 a10 a11 a12 a13 a14 a15 a16 a17 a18, v = (a0, a1, a2, a3, a4, a5, a6, a7, a8, a9, a10, a11, a12, a13, a14, a15, a16, a17, a18) ∧ k a0 a1 a2 a3 a4 a5 a6 a7 a8 a9 a10 a11 a12 a13 a14 a15 a16 a17 a18 = some r := ⟨v.1, v.2.1, v.2.2.1, v.2.2.2.1, v.2.2.2.2.1, v.2.2.2.2.2.1, v.2.2.2.2.2.2.1, v.2.2.2.2.2.2.2.1, v.2.2.2.2.2.2.2.2.1, v.2.2.2.2.2.2.2.2.2.1, v.2.2.2.2.2.2.2.2.2.2.1, v.2.2.2.2.2.2.2.2.2.2.2.1, v.2.2.2.2.2.2.2.2.2.2.2.2.1, v.2.2.2.2.2.2.2.2.2.2.2.2.2.1, v.2.2.2.2.2.2.2.2.2.2.2.2.2.2.1, v.2.2.2.2.2.2.2.2.2.2.2.2.2.2.2.1, v.2.2.2.2.2.2.2.2.2.2.2.2.2.2.2.2.1, v.2.2.2.2.2.2.2.2.2.2.2.2.2.2.2.2.2.1, v.2.2.2.2.2.2.2.2.2.2.2.2.2.2.2.2.2.2, rfl, h⟩
def tup20 {α0 α1 α2 α3 α4 α5 α6 α7 α8 α9 α10 α11 α12 α13 α14 α15 α16 α17 α18 α19 γ : Type} (v : α0 × α1 × α2 × α3 × α4 × α5 × α6 × α7 × α8 × α9 × α10 × α11 × α12 × α13 × α14 × α15 × α16 × α17 × α18 × α19) (k : α0 → α1 → α2 → α3 → α4 → α5 → α6 → α7 → α8 → α9 → α10 → α11 → α12 → α13 → α14 → α15 → α16 → α17 → α18 → α19 → Option γ) : Option γ := k v.1 v.2.1 v.2.2.1 v.2.2.2.1 v.2.2.2.2.1 v.2.2.2.2.2.1 v.2.2.2.2.2.2.1 v.2.2.2.2.2.2.2.1 v.2.2.2.2.2.2.2.2.1 v.2.2.2.2.2.2.2.2.2.1 v.2.2.2.2.2.2.2.2.2.2.1 v.2.2.2.2.2.2.2.2.2.2.2.1 v.2.2.2.2.2.2.2.2.2.2.2.2.1 v.2.2.2.2.2.2.2.2.2.2.2.2.2.1 v.2.2.2.2.2.2.2.2.2.2.2.2.2.2.1 v.2.2.2.2.2.2.2.2.2.2.2.2.2.2.2.1 v.2.2.2.2.2.2.2.2.2.2.2.2.2.2.2.2.1 v.2.2.2.2.2.2.2.2.2.2.2.2.2.2.2.2.2.1 v.2.2.2.2.2.2.2.2.2.2.2.2.2.2.2.2.2.2.1 v.2.2.2.2.2.2.2.2.2.2.2.2.2.2.2.2.2.2.2
theorem tup20_or {α0 α1 α2 α3 α4 α5 α6 α7 α8 α9 α10 α11 α12 α13 α14 α15 α16 α17 α18 α19 γ : Type} {v : α0 × α1 × α2 × α3 × α4 × α5 × α6 × α7 × α8 × α9 × α10 × α11 × α12 × α13 × α14 × α15 × α16 × α17 × α18 × α19} {k : α0 → α1 → α2 → α3 → α4 → α5 → α6 → α7 → α8 → α9 → α10 → α11 → α12 → α13 → α14 → α15 → α16 → α17 → α18 → α19 → Option γ} {r : γ} (h : tup20 v k = some r) : ∃ a0 a1 a2 a3 a4 a5 a6 a7 a8 a9 a10 a11 a12 a13 a14 a15 a16 a17 a18 a19, v = (a0, a1, a2, a3, a4, a5, a6, a7, a8, a9, a10, a11, a12, a13, a14, a15, a16, a17, a18, a19) ∧ k a0 a1 a2 a3 a4 a5 a6 a7 a8 a9 a10 a11 a12 a13 a14 a15 a16 a17 a18 a19 = some r := ⟨v.1, v.2.1, v.2.2.1, v.2.2.2.1, v.2.2.2.2.1, v.2.2.2.2.2.1, v.2.2.2.2.2.2.1, v.2.2.2.2.2.2.2.1, v.2.2.2.2.2.2.2.2.1, v.2.2.2.2.2.2.2.2.2.1, v.2.2.2.2.2.2.2.2.2.2.1, v.2.2.2.2.2.2.2.2.2.2.2.1, v.2.2.2.2.2.2.2.2.2.2.2.2.1, v.2.2.2.2.2.2.2.2.2.2.2.2.2.1, v.2.2.2.2.2.2.2.2.2.2.2.2.2.2.1, v.2.2.2.2.2.2.2.2.2.2.2.2.2.2.2.1, v.2.2.2.2.2.2.2.2.2.2.2.2.2.2.2.2.1, v.2.2.2.2.2.2.2.2.2.2.2.2.2.2.2.2.2.1, v.2.2.2.2.2.2.2.2.2.2.2.2.2.2.2.2.2.2.1, v.2.2.2.2.2.2.2.2.2.2.2.2.2.2.2.2.2.2.2, rfl, h⟩
def tup21 {α0 α1 α2 α3 α4 α5 α6 α7 α8 α9 α10 α11 α12 α13 α14 α15 α16 α17 α18 α19 α20 γ : Type} (v : α0 × α1 × α2 × α3 × α4 × α5 × α6 × α7 × α8 × α9 × α10 × α11 × α12 × α13 × α14 × α15 × α16 × α17 × α18 × α19 × α20) (k : α0 → α1 → α2 → α3 → α4 → α5 → α6 → α7 → α8 → α9 → α10 → α11 → α12 → α13 → α14 → α15 → α16 → α17 → α18 → α19 → α20 → Option γ) : Option γ := k v.1 v.2.1 v.2.2.1 v.2.2.2.1 v.2.2.2.2.1 v.2.2.2.2.2.1 v.2.2.2.2.2.2.1 v.2.2.2.2.2.2.2.1 v.2.2.2.2.2.2.2.2.1 v.2.2.2.2.2.2.2.2.2.1 v.2.2.2.2.2.2.2.2.2.2.1 v.2.2.2.2.2.2.2.2.2.2.2.1 v.2.2.2.2.2.2.2.2.2.2.2.2.1 v.2.2.2.2.2.2.2.2.2.2.2.2.2.1 v.2.2.2.2.2.2.2.2.2.2.2.2.2.2.1 v.2.2.2.2.2.2.2.2.2.2.2.2.2.2.2.1 v.2.2.2.2.2.2.2.2.2.2.2.2.2.2.2.2.1 v.2.2.2.2.2.2.2.2.2.2.2.2.2.2.2.2.2.1 v.2.2.2.2.2.2.2.2.2.2.2.2.2.2.2.2.2.2.1 v.2.2.2.2.2.2.2.2.2.2.2.2.2.2.2.2.2.2.2.1 v.2.2.2.2.2.2.2.2.2.2.2.2.2.2.2.2.2.2.2.2
theorem tup21_or {α0 α1 α2 α3 α4 α5 α6 α7 α8 α9 α10 α11 α12 α13 α14 α15 α16 α17 α18 α19 α20 γ : Type} {v : α0 × α1 × α2 × α3 × α4 × α5 × α6 × α7 × α8 × α9 × α10 × α11 × α12 × α13 × α14 × α15 × α16 × α17 × α18 × α19 × α20} {k : α0 → α1 → α2 → α3 → α4 → α5 → α6 → α7 → α8 → α9 → α10 → α11 → α12 → α13 → α14 → α15 → α16 → α17 → α18 → α19 → α20 → Option γ} {r : γ} (h : tup21 v k = some r) : ∃ a0 a1 a2 a3 a4 a5 a6 a7 a8 a9 a10 a11 a12 a13 a14 a15 a16 a17 a18 a19 a20, v = (a0, a1, a2, a3, a4, a5, a6, a7, a8, a9, a10, a11, a12, a13, a14, a15, a16, a17, a18, a19, a20) ∧ k a0 a1 a2 a3 a4 a5 a6 a7 a8 a9 a10 a11 a12 a13 a14 a15 a16 a17 a18 a19 a20 = some r := ⟨v.1, v.2.1, v.2.2.1, v.2.2.2.1, v.2.2.2.2.1, v.2.2.2.2.2.1, v.2.2.2.2.2.2.1, v.2.2.2.2.2.2.2.1, v.2.2.2.2.2.2.2.2.1, v.2.2.2.2.2.2.2.2.2.1, v.2.2.2.2.2.2.2.2.2.2.1, v.2.2.2.2.2.2.2.2.2.2.2.1, v.2.2.2.2.2.2.2.2.2.2.2.2.1, v.2.2.2.2.2.2.2.2.2.2.2.2.2.1, v.2.2.2.2.2.2.2.2.2.2.2.2.2.2.1, v.2.2.2.2.2.2.2.2.2.2.2.2.2.2.2.1, v.2.2.2.2.2.2.2.2.2.2.2.2.2.2.2.2.1, v.2.2.2.2.2.2.2.2.2.2.2.2.2.2.2.2.2.1, v.2.2.2.2.2.2.2.2.2.2.2.2.2.2.2.2.2.2.1, v.2.2.2.2.2.2.2.2.2.2.2.2.2.2.2.2.2.2.2.1, v.2.2.2.2.2.2.2.2.2.2.2.2.2.2.2.2.2.2.2.2, rfl, h⟩
def tup22 {α0 α1 α2 α3 α4 α5 α6 α7 α8 α9 α10 α11 α12 α13 α14 α15 α16 α17 α18 α19 α20 α21 γ : Type} (v : α0 × α1 × α2 × α3 × α4 × α5 × α6 × α7 × α8 × α9 × α10 × α11 × α12 × α13 × α14 × α15 × α16 × α17 × α18 × α19 × α20 × α21) (k : α0 → α1 → α2 → α3 → α4 → α5 → α6 → α7 → α8 → α9 → α10 → α11 → α12 → α13 → α14 → α15 → α16 → α17 → α18 → α19 → α20 → α21 → Option γ) : Option γ := k v.1 v.2.1 v.2.2.1 v.2.2.2.1 v.2.2.2.2.1 v.2.2.2.2.2.1 v.2.2.2.2.2.2.1 v.2.2.2.2.2.2.2.1 v.2.2.2.2.2.2.2.2.1 v.2.2.2.2.2.2.2.2.2.1 v.2.2.2.2.2.2.2.2.2.2.1 v.2.2.2.2.2.2.2.2.2.2.2.1 v.2.2.2.2.2.2.2.2.2.2.2.2.1 v.2.2.2.2.2.2.2.2.2.2.2.2.2.1 v.2.2.2.2.2.2.2.2.2.2.2.2.2.2.1 v.2.2.2.2.2.2.2.2.2.2.2.2.2.2.2.1 v.2.2.2.2.2.2.2.2.2.2.2.2.2.2.2.2.1 v.2.2.2.2.2.2.2.2.2.2.2.2.2.2.2.2.2.1 v.2.2.2.2.2.2.2.2.2.2.2.2.2.2.2.2.2.2.1 v.2.2.2.2.2.2.2.2.2.2.2.2.2.2.2.2.2.2.2.1 v.2.2.2.2.2.2.2.2.2.2.2.2.2.2.2.2.2.2.2.2.1 v.2.2.2.2.2.2.2.2.2.2.2.2.2.2.2.2.2.2.2.2.2
theorem tup22_or {α0 α1 α2 α3 α4 α5 α6 α7 α8 α9 α10 α11 α12 α13 α14 α15 α16 α17 α18 α19 α20 α21 γ : Type} {v : α0 × α1 × α2 × α3 × α4 × α5 × α6 × α7 × α8 × α9 × α10 × α11 × α12 × α13 × α14 × α15 × α16 × α17 × α18 × α19 × α20 × α21} {k : α0 → α1 → α2 → α3 → α4 → α5 → α6 → α7 → α8 → α9 → α10 → α11 → α12 → α13 → α14 → α15 → α16 → α17 → α18 → α19 → α20 → α21 → Option γ} {r : γ} (h : tup22 v k = some r) : ∃ a0 a1 a2 a3 a4 a5 a6 a7 a8 a9 a10 a11 a12 a13 a14 a15 a16 a17 a18 a19 a20 a21, v = (a0, a1, a2, a3, a4, a5, a6, a7, a8, a9, a10, a11, a12, a13, a14, a15, a16, a17, a18, a19, a20, a21) ∧ k a0 a1 a2 a3 a4 a5 a6 a7 a8 a9 a10 a11 a12 a13 a14 a15 a16 a17 a18 a19 a20 a21 = some r := ⟨v.1, v.2.1, v.2.2.1, v.2.2.2.1, v.2.2.2.2.1, v.2.2.2.2.2.1, v.2.2.2.2.2.2.1, v.2.2.2.2.2.2.2.1, v.2.2.2.2.2.2.2.2.1, v.2.2.2.2.2.2.2.2.2.1, v.2.2.2.2.2.2.2.2.2.2.1, v.2.2.2.2.2.2.2.2.2.2.2.1, v.2.2.2.2.2.2.2.2.2.2.2.2.1, v.2.2.2.2.2.2.2.2.2.2.2.2.2.1, v.2.2.2.2.2.2.2.2.2.2.2.2.2.2.1, v.2.2.2.2.2.2.2.2.2.2.2.2.2.2.2.1, v.2.2.2.2.2.2.2.2.2.2.2.2.2.2.2.2.1, v.2.2.2.2.2.2.2.2.2.2.2.2.2.2.2.2.2.1, v.2.2.2.2.2.2.2.2.2.2.2.2.2.2.2.2.2.2.1, v.2.2.2.2.2.2.2.2.2.2.2.2.2.2.2.2.2.2.2.1, v.2.2.2.2.2.2.2.2.2.2.2.2.2.2.2.2.2.2.2.2.1, v.2.2.2.2.2.2.2.2.2.2.2.2.2.2.2.2.2.2.2.2.2, rfl, h⟩
def tup23 {α0 α1 α2 α3 α4 α5 α6 α7 α8 α9 α10 α11 α12 α13 α14 α15 α16 α17 α18 α19 α20 α21 α22 γ : Type} (v : α0 × α1 × α2 × α3 × α4 × α5 × α6 × α7 × α8 × α9 × α10 × α11 × α12 × α13 × α14 × α15 × α16 × α17 × α18 × α19 × α20 × α21 × α22) (k : α0 → α1 → α2 → α3 → α4 → α5 → α6 → α7 → α8 → α9 → α10 → α11 → α12 → α13 → α14 → α15 → α16 → α17 → α18 → α19 → α20 → α21 → α22 → Option γ) : Option γ := k v.1 v.2.1 v.2.2.1 v.2.2.2.1 v.2.2.2.2.1 v.2.2.2.2.2.1 v.2.2.2.2.2.2.1 v.2.2.2.2.2.2.2.1 v.2.2.2.2.2.2.2.2.1 v.2.2.2.2.2.2.2.2.2.1 v.2.2.2.2.2.2.2.2.2.2.1 v.2.2.2.2.2.2.2.2.2.2.2.1 v.2.2.2.2.2.2.2.2.2.2.2.2.1 v.2.2.2.2.2.2.2.2.2.2.2.2.2.1 v.2.2.2.2.2.2.2.2.2.2.2.2.2.2.1 v.2.2.2.2.2.2.2.2.2.2.2.2.2.2.2.1 v.2.2.2.2.2.2.2.2.2.2.2.2.2.2.2.2.1 v.2.2.2.2.2.2.2.2.2.2.2.2.2.2.2.2.2.1 v.2.2.2.2.2.2.2.2.2.2.2.2.2.2.2.2.2.2.1 v.2.2.2.2.2.2.2.2.2.2.2.2.2.2.2.2.2.2.2.1 v.2.2.2.2.2.2.2.2.2.2.2.2.2.2.2.2.2.2.2.2.1 v.2.2.2.2.2.2.2.2.2.2.2.2.2.2.2.2.2.2.2.2.2.1 v.2.2.2.2.2.2.2.2.2.2.2.2.2.2.2.2.2.2.2.2.2.2
theorem tup23_or {α0 α1 α2 α3 α4 α5 α6 α7 α8 α9 α10 α11 α12 α13 α14 α15 α16 α17 α18 α19 α20 α21 α22 γ : Type} {v : α0 × α1 × α2 × α3 × α4 × α5 × α6 × α7 × α8 × α9 × α10 × α11 × α12 × α13 × α14 × α15 × α16 × α17 × α18 × α19 × α20 × α21 × α22} {k : α0 → α1 → α2 → α3 → α4 → α5 → α6 → α7 → α8 → α9 → α10 → α11 → α12 → α13 → α14 → α15 → α16 → α17 → α18 → α19 → α20 → α21 → α22 → Option γ} {r : γ} (h : tup23 v k = some r) : ∃ a0 a1 a2 a3 a4 a5 a6 a7 a8 a9 a10 a11 a12 a13 a14 a15 a16 a17 a18 a19 a20 a21 a22, v = (a0, a1, a2, a3, a4, a5, a6, a7, a8, a9, a10, a11, a12, a13, a14, a15, a16, a17, a18, a19, a20, a21, a22) ∧ k a0 a1 a2 a3 a4 a5 a6 a7 a8 a9 a10 a11 a12 a13 a14 a15 a16 a17 a18 a19 a20 a21 a22 = some r := ⟨v.1, v.2.1, v.2.2.1, v.2.2.2.1, v.2.2.2.2.1, v.2.2.2.2.2.1, v.2.2.2.2.2.2.1, v.2.2.2.2.2.2.2.1, v.2.2.2.2.2.2.2.2.1, v.2.2.2.2.2.2.2.2.2.1, v.2.2.2.2.2.2.2.2.2.2.1, v.2.2.2.2.2.2.2.2.2.2.2.1, v.2.2.2.2.2.2.2.2.2.2.2.2.1, v.2.2.2.2.2.2.2.2.2.2.2.2.2.1, v.2.2.2.2.2.2.2.2.2.2.2.2.2.2.1, v.2.2.2.2.2.2.2.2.2.2.2.2.2.2.2.1, v.2.2.2.2.2.2.2.2.2.2.2.2.2.2.2.2.1, v.2.2.2.2.2.2.2.2.2.2.2.2.2.2.2.2.2.1, v.2.2.2.2.2.2.2.2.2.2.2.2.2.2.2.2.2.2.1, v.2.2.2.2.2.2.2.2.2.2.2.2.2.2.2.2.2.2.2.1, v.2.2.2.2.2.2.2.2.2.2.2.2.2.2.2.2.2.2.2.2.1, v.2.2.2.2.2.2.2.2.2.2.2.2.2.2.2.2.2.2.2.2.2.1, v.2.2.2.2.2.2.2.2.2.2.2.2.2.2.2.2.2.2.2.2.2.2, rfl, h⟩
def tup24 {α0 α1 α2 α3 α4 α5 α6 α7 α8 α9 α10 α11 α12 α13 α14 α15 α16 α17 α18 α19 α20 α21 α22 α23 γ : Type} (v : α0 × α1 × α2 × α3 × α4 × α5 × α6 × α7 × α8 × α9 × α10 × α11 × α12 × α13 × α14 × α15 × α16 × α17 × α18 × α19 × α20 × α21 × α22 × α23) (k : α0 → α1 → α2 → α3 → α4 → α5 → α6 → α7 → α8 → α9 → α10 → α11 → α12 → α13 → α14 → α15 → α16 → α17 → α18 → α19 → α20 → α21 → α22 → α23 → Option γ) : Option γ := k v.1 v.2.1 v.2.2.1 v.2.2.2.1 v.2.2.2.2.1 v.2.2.2.2.2.1 v.2.2.2.2.2.2.1 v.2.2.2.2.2.2.2.1 v.2.2.2.2.2.2.2.2.1 v.2.2.2.2.2.2.2.2.2.1 v.2.2.2.2.2.2.2.2.2.2.1 v.2.2.2.2.2.2.2.2.2.2.2.1 v.2.2.2.2.2.2.2.2.2.2.2.2.1 v.2.2.2.2.2.2.2.2.2.2.2.2.2.1 v.2.2.2.2.2.2.2.2.2.2.2.2.2.2.1 v.2.2.2.2.2.2.2.2.2.2.2.2.2.2.2.1 v.2.2.2.2.2.2.2.2.2.2.2.2.2.2.2.2.1 v.2.2.2.2.2.2.2.2.2.2.2.2.2.2.2.2.2.1 v.2.2.2.2.2.2.2.2.2.2.2.2.2.2.2.2.2.2.1 v.2.2.2.2.2.2.2.2.2.2.2.2.2.2.2.2.2.2.2.1 v.2.2.2.2.2.2.2.2.2.2.2.2.2.2.2.2.2.2.2.2.1 v.2.2.2.2.2.2.2.2.2.2.2.2.2.2.2.2.2.2.2.2.2.1 v.2.2.2.2.2.2.2.2.2.2.2.2.2.2.2.2.2.2.2.2.2.2.1 v.2.2.2.2.2.2.2.2.2.2.2.2.2.2.2.2.2.2.2.2.2.2.2
theorem tup24_or {α0 α1 α2 α3 α4 α5 α6 α7 α8 α9 α10 α11 α12 α13 α14 α15 α16 α17 α18 α19 α20 α21 α22 α23 γ : Type} {v : α0 × α1 × α2 × α3 × α4 × α5 × α6 × α7 × α8 × α9 × α10 × α11 × α12 × α13 × α14 × α15 × α16 × α17 × α18 × α19 × α20 × α21 × α22 × α23} {k : α0 → α1 → α2 → α3 → α4 → α5 → α6 → α7 → α8 → α9 → α10 → α11 → α12 → α13 → α14 → α15 → α16 → α17 → α18 → α19 → α20 → α21 → α22 → α23 → Option γ} {r : γ} (h : tup24 v k = some r) : ∃ a0 a1 a2 a3 a4 a5 a6 a7 a8 a9 a10 a11 a12 a13 a14 a15 a16 a17 a18 a19 a20 a21 a22 a23, v = (a0, a1, a2, a3, a4, a5, a6, a7, a8, a9, a10, a11, a12, a13, a14, a15, a16, a17, a18, a19, a20, a21, a22, a23) ∧ k a0 a1 a2 a3 a4 a5 a6 a7 a8 a9 a10 a11 a12 a13 a14 a15 a16 a17 a18 a19 a20 a21 a22 a23 = some r := ⟨v.1, v.2.1, v.2.2.1, v.2.2.2.1, v.2.2.2.2.1, v.2.2.2.2.2.1, v.2.2.2.2.2.2.1, v.2.2.2.2.2.2.2.1, v.2.2.2.2.2.2.2.2.1, v.2.2.2.2.2.2.2.2.2.1, v.2.2.2.2.2.2.2.2.2.2.1, v.2.2.2.2.2.2.2.2.2.2.2.1, v.2.2.2.2.2.2.2.2.2.2.2.2.1, v.2.2.2.2.2.2.2.2.2.2.2.2.2.1, v.2.2.2.2.2.2.2.2.2.2.2.2.2.2.1, v.2.2.2.2.2.2.2.2.2.2.2.2.2.2.2.1, v.2.2.2.2.2.2.2.2.2.2.2.2.2.2.2.2.1, v.2.2.2.2.2.2.2.2.2.2.2.2.2.2.2.2.2.1, v.2.2.2.2.2.2.2.2.2.2.2.2.2.2.2.2.2.2.1, v.2.2.2.2.2.2.2.2.2.2.2.2.2.2.2.2.2.2.2.1, v.2.2.2.2.2.2.2.2.2.2.2.2.2.2.2.2.2.2.2.2.1, v.2.2.2.2.2.2.2.2.2.2.2.2.2.2.2.2.2.2.2.2.2.1, v.2.2.2.2.2.2.2.2.2.2.2.2.2.2.2.2.2.2.2.2.2.2.1, v.2.2.2.2.2.2.2.2.2.2.2.2.2.2.2.2.2.2.2.2.2.2.2, rfl, h⟩

end Ab
end Go.Proofs.YtgghingfdcmelaaGreat

/-
  The way in: what arguments that can be read look like to the interpreter, and what its answer says of a law.
-/
namespace Go.Proofs.YtgghingfdcmelaaGreat
namespace Ab
open Go.ChangeShapes Go.WideShapes Go.ChangeAt Go.RowKit

/-- types of plain values: numbers, texts, slices, structs of such. -/
def plainT (P : Program) (T : List TypeId) : Bool := T.all fun t => match P.underlying t with
  | some .bool | some (.int _) | some .string => P.cellsOf t == 1
  | some (.slice e) => T.contains e && decide (0 < P.cellsOf e) && P.cellsOf t == 1
  | some (.struct fs) => fs.toList.all fun f => T.contains f.type
  | _ => false
/-- the fields stand side by side. -/
def rowT (P : Program) : Nat → List Field → Bool
  | _, [] => true
  | o, f :: fs => f.offset == o && rowT P (o + P.cellsOf f.type) fs
def rowsT (P : Program) (T : List TypeId) : Bool := T.all fun t => match P.underlying t with
  | some (.struct fs) => rowT P 0 fs.toList && P.cellsOf t == (fs.toList.map fun f => P.cellsOf f.type).sum
  | _ => true

/-- what cells of a type look like. -/
def ShT (P : Program) (B : Nat) : Nat → TypeId → List Cell → Prop
  | 0, _, _ => False
  | n + 1, t, l => match P.underlying t with
    | some .bool => ∃ b, l = [.val (.bool b)]
    | some (.int k) => ∃ x, l = [.val (.int k x)] ∧ k.min ≤ x ∧ x ≤ k.max
    | some .string => ∃ s : ByteArray, l = [.val (.string s)] ∧ s.size ≤ B
    | some (.slice e) => ∃ rows, l = [.imm rows] ∧ rows.length ≤ B ∧ ∀ row ∈ rows, ShT P B n e row
    | some (.struct fs) => ∃ ls : List (List Cell), l = ls.flatten ∧ ls.length = fs.size ∧ ∀ (i : Nat) f x, fs[i]? = some f → ls[i]? = some x → ShT P B n f.type x
    | _ => False

def RelLs0 (im : Nat → Prop) (w : World) (l : List Cell) (cs : List Value) : Prop := l.length = cs.length ∧ ∀ (o : Nat) c, l[o]? = some c → ∃ u, cs[o]? = some u ∧ RelI im w c u

theorem mapM_range {β : Type} {f : Nat → Option β} : ∀ {n : Nat} {r : List β}, (List.range n).mapM f = some r → r.length = n ∧ ∀ i, i < n → ∃ y, f i = some y ∧ r[i]? = some y := by
  intro n r h
  have h1 := mapM_some_length h
  rw [List.length_range] at h1
  refine ⟨h1, fun i hi => ?_⟩
  have := mapM_some_get h i i (by rw [List.getElem?_range hi])
  rw [List.getElem?_eq_getElem (by omega : i < r.length)] at this
  exact ⟨_, this, List.getElem?_eq_getElem _⟩

theorem cells_at {w : World} {base : Nat} {a : Addr} {n : Nat} {cs : List Value} (h : w.cells? base a n = some cs) (hn : 0 < n) :
    cs.length = n ∧ a.spot = none ∧ ∃ vs T fr, w.heap[a.block]? = some (.cells vs T fr) ∧ ∀ j, j < n → vs[a.off + j]? = cs[j]? := by
  unfold World.cells? at h
  split at h
  · obtain ⟨h1, h2⟩ := mapM_range h
    obtain ⟨y0, k1, k2⟩ := h2 0 hn
    have hc : ∀ j y, w.cell? (a.add j) = some y → ∃ vs T fr, w.heap[a.block]? = some (.cells vs T fr) ∧ vs[a.off + j]? = some y := by
      intro j y e
      unfold World.cell? at e
      have hb : (a.add j).block = a.block := by unfold Addr.add; split <;> rfl
      have ho : (a.add j).off = a.off + j := by unfold Addr.add; split <;> simp_all
      rw [hb, ho] at e
      split at e
      · rename_i c T fr hh
        split at e
        · cases e
        · exact ⟨c, T, fr, hh, e⟩
      · cases e
    have hs : a.spot = none := by
      unfold World.cell? at k1
      rw [show a.add 0 = a from by simp [Addr.add]] at k1
      split at k1
      · split at k1
        · cases k1
        · rename_i hs; simpa using hs
      · cases k1
    obtain ⟨vs, T, fr, e1, _⟩ := hc 0 y0 k1
    refine ⟨h1, hs, vs, T, fr, e1, fun j hj => ?_⟩
    obtain ⟨y, l1, l2⟩ := h2 j hj
    obtain ⟨vs', T', fr', e2, e3⟩ := hc j y l1
    rw [e1] at e2
    cases e2
    rw [e3, l2]
  · cases h

theorem one_rel {im : Nat → Prop} {w : World} {v : Value} (h : oneC v = true) : RelLs0 im w [.val v] [v] := by
  refine ⟨rfl, fun o c hc => ?_⟩
  cases o with
  | zero => simp only [List.getElem?_cons_zero, Option.some.injEq] at hc; subst hc; exact ⟨_, rfl, .val _ h⟩
  | succ o => simp at hc
theorem bulk_one {H : Type} (d : DataW H) : 1 ≤ Rows.uptoBulk d := by
  cases d with
  | lit l => cases l <;> simp [Rows.uptoBulk]
  | nil => simp [Rows.uptoBulk]
  | ptr d => simp [Rows.uptoBulk]
  | slice elems spare => simp [Rows.uptoBulk]
  | agg parts => simp [Rows.uptoBulk]
  | iface t d => simp [Rows.uptoBulk]
  | map entries => simp [Rows.uptoBulk]
  | held h => simp [Rows.uptoBulk]
theorem bulk_part {H : Type} {d : DataW H} {l : List (DataW H)} (h : d ∈ l) : Rows.uptoBulk d ≤ Rows.uptoBulkAll l := by
  induction l with
  | nil => cases h
  | cons x r ih =>
    simp only [Rows.uptoBulkAll]
    cases List.mem_cons.1 h with
    | inl e => subst e; omega
    | inr e => have := ih e; omega
theorem bulk_len {H : Type} (l : List (DataW H)) : l.length ≤ Rows.uptoBulkAll l := by
  induction l with
  | nil => simp [Rows.uptoBulkAll]
  | cons x r ih => have := bulk_one x; simp only [Rows.uptoBulkAll, List.length_cons]; omega

mutual
def wtC : Cell → Nat
  | .imm rows => wtRs rows + 1
  | _ => 1
def wtL : List Cell → Nat
  | [] => 0
  | c :: l => wtC c + wtL l
def wtRs : List (List Cell) → Nat
  | [] => 0
  | l :: r => wtL l + wtRs r
end
theorem wtL_append (a b : List Cell) : wtL (a ++ b) = wtL a + wtL b := by
  induction a with
  | nil => simp [wtL]
  | cons c a ih => simp only [List.cons_append, wtL, ih]; omega
theorem wtRs_le {H : Type} : ∀ (rows : List (List Cell)) (ds : List (DataW H)), rows.length = ds.length → (∀ (i : Nat) r d, rows[i]? = some r → ds[i]? = some d → wtL r ≤ Rows.uptoBulk d) → wtRs rows ≤ Rows.uptoBulkAll ds
  | [], ds, _, _ => by simp [wtRs]
  | r :: rows, [], h, _ => by simp at h
  | r :: rows, d :: ds, h, hp => by
    have h1 := hp 0 r d rfl rfl
    have h2 := wtRs_le rows ds (by simpa using h) (fun i r' d' e1 e2 => hp (i + 1) r' d' (by simpa using e1) (by simpa using e2))
    simp only [wtRs, Rows.uptoBulkAll]
    omega

theorem rel_of_trod {H : Type} {enc : TypeId × Value → H} {P : Program} {w : World} {base : Nat} {spare : Nat → Bool} {held : Bool} {T : List TypeId} {B : Nat} (hT : plainT P T = true) (hR : rowsT P T = true) :
    ∀ (n : Nat) (t : TypeId) (cs : List Value) (d : DataW H) (ps : List MemPlace), t ∈ T → DataW.trod enc P w base spare held n t cs = some (d, ps) → Rows.uptoBulk d ≤ B →
      ∃ l, RelLs0 (fun b => b < w.heap.size) w l cs ∧ ShT P B n t l ∧ cs.length = P.cellsOf t ∧ wtL l ≤ Rows.uptoBulk d
  | 0, t, cs, d, ps, _, e, _ => by simp [DataW.trod] at e
  | n + 1, t, cs, d, ps, ht, e, hB => by
    have h1 := (List.all_eq_true.1 hT) t ht
    have h2 := (List.all_eq_true.1 hR) t ht
    unfold DataW.trod at e
    cases hu : P.underlying t with
    | none => rw [hu] at h1; cases h1
    | some ud =>
      rw [hu] at h1 h2 e
      cases ud with
      | bool =>
        simp only [beq_iff_eq] at h1
        rcases cs with _ | ⟨v, _ | ⟨v2, cs⟩⟩
        · simp at e
        · cases v <;> simp at e
          rename_i b
          refine ⟨[.val (.bool b)], one_rel rfl, ?_, h1.symm, bulk_one _⟩
          simp only [ShT, hu]
          exact ⟨b, rfl⟩
        · cases v <;> simp at e
      | int k =>
        simp only [beq_iff_eq] at h1
        rcases cs with _ | ⟨v, _ | ⟨v2, cs⟩⟩
        · simp at e
        · cases v <;> simp at e
          rename_i k' x
          obtain ⟨⟨rfl, hw⟩, _⟩ := e
          refine ⟨[.val (.int k' x)], one_rel rfl, ?_, h1.symm, bulk_one _⟩
          simp only [ShT, hu]
          simp only [Lit.wf, Bool.and_eq_true, decide_eq_true_eq] at hw
          exact ⟨x, rfl, hw⟩
        · cases v <;> simp at e
      | string =>
        simp only [beq_iff_eq] at h1
        rcases cs with _ | ⟨v, _ | ⟨v2, cs⟩⟩
        · simp at e
        · cases v <;> simp at e
          rename_i s
          obtain ⟨_, rfl, _⟩ := e
          refine ⟨[.val (.string s)], one_rel rfl, ?_, h1.symm, bulk_one _⟩
          simp only [ShT, hu]
          refine ⟨s, rfl, ?_⟩
          simp only [Rows.uptoBulk] at hB
          have hl : s.data.toList.length = s.size := by rw [Array.length_toList]; rfl
          omega
        · cases v <;> simp at e
      | slice el =>
        simp only [Bool.and_eq_true, decide_eq_true_eq, beq_iff_eq] at h1
        obtain ⟨⟨h1, h3⟩, h4⟩ := h1
        have hel : el ∈ T := by simpa using h1
        rcases cs with _ | ⟨v, _ | ⟨v2, cs⟩⟩
        · simp at e
        · cases v with
          | slice a len cap =>
            cases a with
            | none =>
              cases len <;> cases cap <;> simp at e
              refine ⟨[.imm []], ⟨rfl, fun o c hc => ?_⟩, ?_, h4.symm, bulk_one _⟩
              · cases o with
                | zero => simp only [List.getElem?_cons_zero, Option.some.injEq] at hc; subst hc; exact ⟨_, rfl, .immE none 0⟩
                | succ o => simp at hc
              · simp only [ShT, hu]; exact ⟨[], rfl, Nat.zero_le _, by simp⟩
            | some a =>
              simp only at e
              split at e
              · rename_i hcond
                rw [Option.bind_eq_some_iff] at e
                obtain ⟨elems, he, e⟩ := e
                rw [Option.map_eq_some_iff] at e
                obtain ⟨rest, hrest, e⟩ := e
                simp only [Prod.mk.injEq] at e
                obtain ⟨rfl, _⟩ := e
                obtain ⟨m1, m2⟩ := mapM_range he
                simp only [Rows.uptoBulk] at hB
                have hlen : elems.length ≤ B := by
                  have := bulk_len (elems.map (·.1))
                  rw [List.length_map] at this
                  omega
                have each : ∀ i, i < len → ∃ li csi vs, w.cells? base (a.add (i * P.cellsOf el)) (P.cellsOf el) = some csi ∧ RelLs0 (fun b => b < w.heap.size) w li csi ∧ ShT P B n el li ∧ csi.length = P.cellsOf el ∧ vs = csi ∧ ∀ y, elems[i]? = some y → wtL li ≤ Rows.uptoBulk y.1 := by
                  intro i hi
                  obtain ⟨y, k1, k2⟩ := m2 i hi
                  rw [Option.bind_eq_some_iff] at k1
                  obtain ⟨csi, k3, k4⟩ := k1
                  obtain ⟨di, pi⟩ := y
                  have hb : Rows.uptoBulk di ≤ B := by
                    have : Rows.uptoBulk di ≤ Rows.uptoBulkAll (elems.map (·.1)) := bulk_part (List.mem_map.2 ⟨(di, pi), List.mem_of_getElem? k2, rfl⟩)
                    omega
                  obtain ⟨li, r1, r2, r3, r4⟩ := rel_of_trod (B := B) hT hR n el csi di pi hel k4 hb
                  exact ⟨li, csi, csi, k3, r1, r2, r3, rfl, fun y hy => by rw [k2] at hy; cases hy; exact r4⟩
                cases len with
                | zero =>
                  refine ⟨[.imm []], ⟨rfl, fun o c hc => ?_⟩, ?_, h4.symm, bulk_one _⟩
                  · cases o with
                    | zero => simp only [List.getElem?_cons_zero, Option.some.injEq] at hc; subst hc; exact ⟨_, rfl, .immE _ _⟩
                    | succ o => simp at hc
                  · simp only [ShT, hu]; exact ⟨[], rfl, Nat.zero_le _, by simp⟩
                | succ len' =>
                  obtain ⟨l0, cs0, _, q1, _, _, _, _, _⟩ := each 0 (by omega)
                  rw [Nat.zero_mul, show a.add 0 = a from by simp [Addr.add]] at q1
                  obtain ⟨_, q2, vs, Tt, fr, q3, q4⟩ := cells_at q1 h3
                  let rowAt : Nat → List Cell := fun i => if hi : i < len' + 1 then (each i hi).choose else []
                  have hrow : ∀ i (hi : i < len' + 1), ∃ csi, w.cells? base (a.add (i * P.cellsOf el)) (P.cellsOf el) = some csi ∧ RelLs0 (fun b => b < w.heap.size) w (rowAt i) csi ∧ ShT P B n el (rowAt i) ∧ csi.length = P.cellsOf el ∧ ∀ y, elems[i]? = some y → wtL (rowAt i) ≤ Rows.uptoBulk y.1 := by
                    intro i hi
                    obtain ⟨csi, _, z1, z2, z3, z4, _, z5⟩ := (each i hi).choose_spec
                    refine ⟨csi, z1, ?_, ?_, z4, ?_⟩
                    · simp only [rowAt, dif_pos hi]; exact z2
                    · simp only [rowAt, dif_pos hi]; exact z3
                    · simp only [rowAt, dif_pos hi]; exact z5
                  have hlt : a.block < w.heap.size := by
                    have := Array.getElem?_eq_some_iff.1 q3
                    exact this.1
                  have hvs : ∀ i (hi : i < len' + 1) csi, w.cells? base (a.add (i * P.cellsOf el)) (P.cellsOf el) = some csi → ∀ j, j < P.cellsOf el → vs[a.off + i * P.cellsOf el + j]? = csi[j]? := by
                    intro i hi csi z1 j hj
                    obtain ⟨_, _, vs', T', fr', q5, q6⟩ := cells_at z1 h3
                    have hb : (a.add (i * P.cellsOf el)).block = a.block := by unfold Addr.add; split <;> rfl
                    have ho : (a.add (i * P.cellsOf el)).off = a.off + i * P.cellsOf el := by unfold Addr.add; split <;> simp_all
                    rw [hb, q3] at q5
                    cases q5
                    rw [← q6 j hj, ho]
                  refine ⟨[.imm ((List.range (len' + 1)).map rowAt)], ⟨rfl, fun o c hc => ?_⟩, ?_, h4.symm, ?_⟩
                  · cases o with
                    | succ o => simp at hc
                    | zero =>
                      simp only [List.getElem?_cons_zero, Option.some.injEq] at hc
                      subst hc
                      refine ⟨_, rfl, ?_⟩
                      have ha : a = ⟨a.block, a.off, none⟩ := by obtain ⟨b, o, s⟩ := a; simp only at q2; subst q2; rfl
                      have hcell : ∀ r o c, cellAt ((List.range (len' + 1)).map rowAt) r o = some c → ∃ (hr : r < len' + 1), (rowAt r)[o]? = some c := by
                        intro r o c hc
                        obtain ⟨row, k1, k2⟩ := cellAt_some.1 hc
                        rw [List.getElem?_map] at k1
                        by_cases hr : r < len' + 1
                        · rw [List.getElem?_range hr] at k1
                          simp only [Option.map_some, Option.some.injEq] at k1
                          subst k1
                          exact ⟨hr, k2⟩
                        · rw [List.getElem?_eq_none (by simpa using hr)] at k1
                          simp at k1
                      have := RelI.imm (im := fun b => b < w.heap.size) (w := w) ((List.range (len' + 1)).map rowAt) a.block a.off cap (P.cellsOf el) vs Tt fr (fun r o => (vs[a.off + r * P.cellsOf el + o]?).getD Go.undef) q3 hlt
                        (by rw [List.length_map, List.length_range]; exact hcond.2.1) (fun row hr => by
                          obtain ⟨i, hi, rfl⟩ := List.mem_map.1 hr
                          obtain ⟨csi, _, z2, _, z4, _⟩ := hrow i (List.mem_range.1 hi)
                          rw [z2.1, z4])
                        (fun r o c hc => by
                          obtain ⟨hr, hc⟩ := hcell r o c hc
                          obtain ⟨csi, z1, z2, _, z4, _⟩ := hrow r hr
                          obtain ⟨u, hu', _⟩ := z2.2 o c hc
                          have ho : o < P.cellsOf el := by rw [← z4]; exact (List.getElem?_eq_some_iff.1 hu').1
                          rw [hvs r hr csi z1 o ho, hu']
                          rfl)
                        (fun r o c hc => by
                          obtain ⟨hr, hc⟩ := hcell r o c hc
                          obtain ⟨csi, z1, z2, _, z4, _⟩ := hrow r hr
                          obtain ⟨u, hu', hrel⟩ := z2.2 o c hc
                          have ho : o < P.cellsOf el := by rw [← z4]; exact (List.getElem?_eq_some_iff.1 hu').1
                          rw [hvs r hr csi z1 o ho, hu']
                          exact hrel)
                      rw [List.length_map, List.length_range, ← ha] at this
                      exact this
                  · simp only [ShT, hu]
                    refine ⟨_, rfl, by rw [List.length_map, List.length_range]; omega, fun row hr => ?_⟩
                    obtain ⟨i, hi, rfl⟩ := List.mem_map.1 hr
                    obtain ⟨_, _, _, z3, _⟩ := hrow i (List.mem_range.1 hi)
                    exact z3
                  · have hw := wtRs_le ((List.range (len' + 1)).map rowAt) (elems.map (·.1)) (by simp [m1]) (fun i r d e1 e2 => by
                      rw [List.getElem?_map] at e1 e2
                      by_cases hi : i < len' + 1
                      · rw [List.getElem?_range hi] at e1
                        simp only [Option.map_some, Option.some.injEq] at e1
                        subst e1
                        obtain ⟨_, _, _, _, _, z5⟩ := hrow i hi
                        cases hy : elems[i]? with
                        | none => simp [hy] at e2
                        | some y =>
                          simp only [hy, Option.map_some, Option.some.injEq] at e2
                          subst e2
                          exact z5 y hy
                      · rw [List.getElem?_eq_none (by simpa using hi)] at e1
                        simp at e1)
                    simp only [wtL, wtC, Rows.uptoBulk]
                    omega
              · cases e
          | _ => simp at e
        · cases v with
          | slice a len cap =>
            cases a with
            | none => cases len <;> cases cap <;> simp at e
            | some a => simp at e
          | _ => simp at e
      | struct fs =>
        simp only at h1
        simp only [Bool.and_eq_true, beq_iff_eq] at h2
        have e' : (if cs.length = P.cellsOf t then (fs.toList.mapM fun f => DataW.trod enc P w base spare held n f.type ((cs.drop f.offset).take (P.cellsOf f.type))).map fun xs => (DataW.agg (xs.map (·.1)), xs.flatMap (·.2)) else none) = some (d, ps) := by
          rcases cs with _ | ⟨v, _ | ⟨v2, cs⟩⟩
          · exact e
          · cases v <;> exact e
          · cases v <;> exact e
        split at e'
        · rename_i hlen
          rw [Option.map_eq_some_iff] at e'
          obtain ⟨xs, hxs, e'⟩ := e'
          simp only [Prod.mk.injEq] at e'
          obtain ⟨rfl, _⟩ := e'
          simp only [Rows.uptoBulk] at hB
          have key : ∀ (fl : List Field) (o : Nat) (xs : List (DataW H × List MemPlace)) (cs' : List Value), (∀ f ∈ fl, f.type ∈ T) → rowT P o fl = true → cs'.length = (fl.map fun f => P.cellsOf f.type).sum → (∀ j, cs'[j]? = cs[o + j]?) →
              (fl.mapM fun f => DataW.trod enc P w base spare held n f.type ((cs.drop f.offset).take (P.cellsOf f.type))) = some xs → Rows.uptoBulkAll (xs.map (·.1)) ≤ B →
              ∃ ls : List (List Cell), ls.length = fl.length ∧ RelLs0 (fun b => b < w.heap.size) w ls.flatten cs' ∧ (∀ (i : Nat) f x, fl[i]? = some f → ls[i]? = some x → ShT P B n f.type x) ∧ wtL ls.flatten ≤ Rows.uptoBulkAll (xs.map (·.1)) := by
            intro fl
            induction fl with
            | nil =>
              intro o xs cs' _ _ hl _ _ _
              refine ⟨[], rfl, ⟨by simpa using hl.symm, by simp⟩, by simp, by simp [wtL]⟩
            | cons f fl ih =>
              intro o xs cs' hf hr hl hj hm hb
              simp only [rowT, Bool.and_eq_true, beq_iff_eq] at hr
              obtain ⟨ho, hr⟩ := hr
              rw [List.mapM_cons] at hm
              simp only [Option.bind_eq_bind, Option.bind_eq_some_iff] at hm
              obtain ⟨y, hy, ys, hys, hm⟩ := hm
              simp only [Option.pure_def, Option.some.injEq] at hm
              subst hm
              simp only [List.map_cons, Rows.uptoBulkAll] at hb
              obtain ⟨dy, py⟩ := y
              obtain ⟨l0, r1, r2, r3, r4⟩ := rel_of_trod (B := B) hT hR n f.type _ dy py (hf f List.mem_cons_self) hy (by simp only at hb; omega)
              simp only [List.map_cons, List.sum_cons] at hl
              obtain ⟨ls, s1, s2, s3, s4⟩ := ih (o + P.cellsOf f.type) ys (cs'.drop (P.cellsOf f.type)) (fun f' h => hf f' (List.mem_cons_of_mem _ h)) hr (by rw [List.length_drop]; omega)
                (fun j => by rw [List.getElem?_drop, hj, Nat.add_assoc]) hys (by simp only at hb; omega)
              have hcs : ∀ j, j < P.cellsOf f.type → ((cs.drop f.offset).take (P.cellsOf f.type))[j]? = cs'[j]? := by
                intro j hj'
                rw [List.getElem?_take_of_lt hj', List.getElem?_drop, hj, ho]
              refine ⟨l0 :: ls, by simp [s1], ⟨?_, fun j c hc => ?_⟩, fun i f' x hf' hx => ?_, by rw [List.flatten_cons, wtL_append]; simp only [List.map_cons, Rows.uptoBulkAll]; omega⟩
              · rw [List.flatten_cons, List.length_append, s2.1, r1.1, r3, List.length_drop]; omega
              · rw [List.flatten_cons] at hc
                by_cases hjl : j < l0.length
                · rw [List.getElem?_append_left hjl] at hc
                  obtain ⟨u, hu', hrel⟩ := r1.2 j c hc
                  exact ⟨u, by rw [← hcs j (by rw [← r3, ← r1.1]; exact hjl)]; exact hu', hrel⟩
                · rw [List.getElem?_append_right (by omega)] at hc
                  obtain ⟨u, hu', hrel⟩ := s2.2 _ c hc
                  refine ⟨u, ?_, hrel⟩
                  rw [List.getElem?_drop] at hu'
                  rw [← hu']
                  congr 1
                  have := r1.1
                  omega
              · cases i with
                | zero =>
                  simp only [List.getElem?_cons_zero, Option.some.injEq] at hf' hx
                  subst hf'; subst hx
                  exact r2
                | succ i => exact s3 i f' x (by simpa using hf') (by simpa using hx)
          obtain ⟨ls, s1, s2, s3, s4⟩ := key fs.toList 0 xs cs (fun f hf => by have := (List.all_eq_true.1 h1) f hf; simpa using this) h2.1 (by rw [hlen, h2.2]) (fun j => by rw [Nat.zero_add]) hxs (by omega)
          refine ⟨ls.flatten, s2, ?_, hlen, by simp only [Rows.uptoBulk]; omega⟩
          simp only [ShT, hu]
          exact ⟨ls, rfl, by simpa using s1, fun i f x hf hx => s3 i f x (by simpa using hf) hx⟩
        · cases e'
      | _ => simp at h1
end Ab
end Go.Proofs.YtgghingfdcmelaaGreat

/-
  The way in, for a law: whatever its arguments are, if the interpreter's answer is true, so is the model's, and all stays.
-/
namespace Go.Proofs.YtgghingfdcmelaaGreat
namespace Ab
open Go.ChangeShapes Go.WideShapes Go.ChangeAt Go.RowKit

/-- a struct's cells, field by field. -/
def ShFs (P : Program) (B n : Nat) : List TypeId → List Cell → Prop
  | [], l => l = []
  | t :: ts, l => ∃ x rest, l = x ++ rest ∧ ShT P B n t x ∧ ShFs P B n ts rest
def structTs (P : Program) (t : TypeId) : Option (List TypeId) := match P.underlying t with
  | some (.struct fs) => some (fs.toList.map (·.type))
  | _ => none
theorem ShT.fields {P : Program} {B n : Nat} {t : TypeId} {l : List Cell} {ts : List TypeId} (h : ShT P B n t l) (hu : structTs P t = some ts) : ∃ m, ShFs P B m ts l := by
  cases n with
  | zero => exact h.elim
  | succ n =>
    unfold structTs at hu
    simp only [ShT] at h
    split at hu
    · rename_i fs he
      rw [he] at h
      simp only [Option.some.injEq] at hu
      subst hu
      obtain ⟨ls, rfl, hl, hs⟩ := h
      refine ⟨n, ?_⟩
      have key : ∀ (fl : List Field) (ls : List (List Cell)), ls.length = fl.length → (∀ (i : Nat) f x, fl[i]? = some f → ls[i]? = some x → ShT P B n f.type x) → ShFs P B n (fl.map (·.type)) ls.flatten := by
        intro fl
        induction fl with
        | nil =>
          intro ls hl _
          have : ls = [] := List.length_eq_zero_iff.1 hl
          rw [this]; rfl
        | cons f fl ih =>
          intro ls hl hs
          cases ls with
          | nil => simp at hl
          | cons x ls => exact ⟨x, ls.flatten, by simp, hs 0 f x rfl rfl, ih ls (by simpa using hl) (fun i f' x' h1 h2 => hs (i + 1) f' x' (by simpa using h1) (by simpa using h2))⟩
      exact key fs.toList ls (by simpa using hl) (fun i f x h1 h2 => hs i f x (by simpa using h1) h2)
    · cases hu
theorem ShT.int {P : Program} {B n : Nat} {t : TypeId} {l : List Cell} {k : IntKind} (h : ShT P B n t l) (hu : P.underlying t = some (.int k)) : ∃ x, l = [.val (.int k x)] ∧ k.min ≤ x ∧ x ≤ k.max := by
  cases n with
  | zero => exact h.elim
  | succ n => simpa only [ShT, hu] using h
theorem ShT.bool {P : Program} {B n : Nat} {t : TypeId} {l : List Cell} (h : ShT P B n t l) (hu : P.underlying t = some .bool) : ∃ b, l = [.val (.bool b)] := by
  cases n with
  | zero => exact h.elim
  | succ n => simpa only [ShT, hu] using h
theorem ShT.string {P : Program} {B n : Nat} {t : TypeId} {l : List Cell} (h : ShT P B n t l) (hu : P.underlying t = some .string) : ∃ s : ByteArray, l = [.val (.string s)] ∧ s.size ≤ B := by
  cases n with
  | zero => exact h.elim
  | succ n => simpa only [ShT, hu] using h
theorem ShT.slice {P : Program} {B n : Nat} {t e : TypeId} {l : List Cell} (h : ShT P B n t l) (hu : P.underlying t = some (.slice e)) : ∃ m rows, l = [.imm rows] ∧ rows.length ≤ B ∧ ∀ row ∈ rows, ShT P B m e row := by
  cases n with
  | zero => exact h.elim
  | succ n =>
    simp only [ShT, hu] at h
    obtain ⟨rows, h1, h2, h3⟩ := h
    exact ⟨n, rows, h1, h2, h3⟩
theorem rows_map {α : Type} {f : α → List Cell} : ∀ {rows : List (List Cell)}, (∀ row ∈ rows, ∃ x, row = f x) → ∃ L : List α, rows = L.map f
  | [], _ => ⟨[], rfl⟩
  | row :: rows, h => by
    obtain ⟨x, hx⟩ := h row List.mem_cons_self
    obtain ⟨L, hL⟩ := rows_map fun r hr => h r (List.mem_cons_of_mem _ hr)
    exact ⟨x :: L, by rw [hx, hL]; rfl⟩

def argAV (P : Program) (t : TypeId) (l : List Cell) : AV := match P.underlying t with
  | some (.struct _) => .ag l
  | _ => match l with
    | [c] => .c c
    | l => .ag l
def argAVs (P : Program) : List TypeId → List (List Cell) → List AV
  | t :: ts, l :: ls => argAV P t l :: argAVs P ts ls
  | _, _ => []
/-- each argument looks like its type. -/
def ShAll (P : Program) (B : Nat) : List TypeId → List (List Cell) → Prop
  | [], [] => True
  | t :: ts, l :: ls => (∃ n, ShT P B n t l) ∧ ShAll P B ts ls
  | _, _ => False

def G0of (w : World) : Gh := ⟨fun _ => none, fun b => b < w.heap.size, fun _ => False⟩

theorem relAV_arg {P : Program} {w : World} {B n : Nat} {t : TypeId} {v : Value} {l : List Cell} {T : List TypeId} (hT : plainT P T = true) (ht : t ∈ T) {base : Nat} (hval : Value.okWide P w .any base t v)
    (h : RelLs0 (fun b => b < w.heap.size) w l v.cells.toList) (hs : ShT P B n t l) (k : Key) : RelAV (G0of w) w k (argAV P t l) v := by
  have h1 := (List.all_eq_true.1 hT) t ht
  have cell : ∀ c u p, RelI (fun b => b < w.heap.size) w c u → (∀ z rs, c ≠ .own z rs) → (∀ es, c ≠ .mp es) → c = .dead ∨ Sh (G0of w) w p c u := by
    intro c u p hr _ _
    cases hr with
    | val v h => exact .inr ⟨rfl, h⟩
    | nil => exact .inr rfl
    | immE a cap => exact .inr (.immE a cap)
    | imm rows b off cap sz vs T fr us hb hi hcap hsz hv hr => exact .inr (.imm rows b off cap sz vs T fr us hb hi hcap hsz hv hr)
    | dead v h => exact .inl rfl
  have notOwn : ∀ c u, RelI (fun b => b < w.heap.size) w c u → (∀ z rs, c ≠ .own z rs) ∧ (∀ es, c ≠ .mp es) := by
    intro c u hr
    cases hr <;> exact ⟨by intros; simp, by intros; simp⟩
  have single : oneC v = true → (∃ c, l = [c]) → argAV P t l = (match l with | [c] => .c c | l => .ag l) → RelAV (G0of w) w k (argAV P t l) v := by
    intro hv hl he
    obtain ⟨c, rfl⟩ := hl
    rw [he]
    have hcv : v.cells.toList = [v] := by cases v <;> first | rfl | cases hv
    refine ⟨trivial, fun r o c' hc => ?_⟩
    obtain ⟨rfl, rfl, rfl⟩ := one_cell hc
    obtain ⟨u, hu, hr⟩ := h.2 0 c' rfl
    rw [hcv] at hu
    simp only [List.getElem?_cons_zero, Option.some.injEq] at hu
    subst hu
    exact ⟨_, rfl, cell _ _ _ hr (notOwn _ _ hr).1 (notOwn _ _ hr).2⟩
  unfold Value.okWide at hval
  cases hu : P.underlying t with
  | none => rw [hu] at h1; cases h1
  | some ud =>
    rw [hu] at h1 hval
    cases n with
    | zero => exact hs.elim
    | succ n =>
      simp only [ShT, hu] at hs
      cases ud with
      | bool =>
        obtain ⟨b, rfl⟩ := hs
        refine single ?_ ⟨_, rfl⟩ (by simp [argAV, hu])
        cases v <;> first | rfl | (simp [Cell.okWide, Cell.ok, hu] at hval)
      | int k =>
        obtain ⟨x, rfl, _⟩ := hs
        refine single ?_ ⟨_, rfl⟩ (by simp [argAV, hu])
        cases v <;> first | rfl | (simp [Cell.okWide, Cell.ok, hu] at hval)
      | string =>
        obtain ⟨x, rfl, _⟩ := hs
        refine single ?_ ⟨_, rfl⟩ (by simp [argAV, hu])
        cases v <;> first | rfl | (simp [Cell.okWide, Cell.ok, hu] at hval)
      | slice e =>
        obtain ⟨x, rfl, _⟩ := hs
        refine single ?_ ⟨_, rfl⟩ (by simp [argAV, hu])
        cases v <;> first | rfl | (simp [Cell.okWide, Cell.ok, hu] at hval)
      | struct fs =>
        obtain ⟨cs, rfl, _, _⟩ := hval
        have he : argAV P t l = .ag l := by simp [argAV, hu]
        rw [he]
        have hlen : l.length = cs.size := by have := h.1; simpa [Value.cells] using this
        refine ⟨⟨cs, rfl, by rw [hlen]⟩, fun r o c hc => ?_⟩
        obtain ⟨row, h3, h4⟩ := cellAt_some.1 hc
        cases r with
        | succ r => simp [AV.ag] at h3
        | zero =>
          simp only [AV.ag, List.getElem?_cons_zero, Option.some.injEq] at h3
          subst h3
          obtain ⟨u, hu', hr⟩ := h.2 o c h4
          refine ⟨u, ?_, cell _ _ _ hr (notOwn _ _ hr).1 (notOwn _ _ hr).2⟩
          simpa [compV, AV.ag, Value.cells] using hu'
      | _ => simp at h1

theorem args_in {H : Type} {enc : TypeId × Value → H} {P : Program} {w : World} {base : Nat} {T : List TypeId} {B : Nat} (hT : plainT P T = true) (hR : rowsT P T = true) :
    ∀ (ts : List TypeId) (vs : List Value) (ds : List (DataW H)) (ps : List MemPlace), (∀ t ∈ ts, t ∈ T) → (∀ (j : Nat) t v, ts[j]? = some t → vs[j]? = some v → Value.okWide P w .any base t v) →
      DataW.TrodAll enc P w 0 (fun _ => true) true ts vs ds ps → Rows.uptoBulkAll ds ≤ B →
      ∃ ls, ShAll P B ts ls ∧ wtRs ls ≤ Rows.uptoBulkAll ds ∧ (argAVs P ts ls).length = vs.length ∧ ∀ (k : Nat) a, (argAVs P ts ls)[k]? = some a → ∃ V, vs[k]? = some V ∧ ∀ key, RelAV (G0of w) w key a V
  | [], vs, ds, ps, _, _, h, _ => by
    obtain ⟨rfl, rfl, rfl⟩ := trodAll_nil h
    exact ⟨[], trivial, by simp [wtRs], rfl, by simp [argAVs]⟩
  | t :: ts, vs, ds, ps, ht, hv, h, hb => by
    obtain ⟨v, vs', d, ds', p, q, rfl, rfl, rfl, ⟨fuel, h0⟩, hr⟩ := trodAll_cons h
    simp only [Rows.uptoBulkAll] at hb
    obtain ⟨ls, k1, k4, k2, k3⟩ := args_in (B := B) hT hR ts vs' ds' q (fun t' h' => ht t' (List.mem_cons_of_mem _ h')) (fun j t' v' e1 e2 => hv (j + 1) t' v' (by simpa using e1) (by simpa using e2)) hr (by omega)
    obtain ⟨l, r1, r2, _, r4⟩ := rel_of_trod (B := B) hT hR fuel t _ d p (ht t List.mem_cons_self) h0 (by omega)
    refine ⟨l :: ls, ⟨⟨fuel, r2⟩, k1⟩, by simp only [wtRs, Rows.uptoBulkAll]; omega, by simp [argAVs, k2], fun k a e => ?_⟩
    cases k with
    | zero =>
      simp only [argAVs, List.getElem?_cons_zero, Option.some.injEq] at e
      subst e
      exact ⟨v, rfl, relAV_arg hT (ht t List.mem_cons_self) (hv 0 t v rfl rfl) r1 r2⟩
    | succ k =>
      simp only [argAVs, List.getElem?_cons_succ] at e
      obtain ⟨V, hV, hr⟩ := k3 k a e
      exact ⟨V, by simpa using hV, hr⟩

theorem noOwn_args {P : Program} {B : Nat} : ∀ {ts : List TypeId} {ls : List (List Cell)}, ShAll P B ts ls → True := fun _ => trivial

/-- no container stands in a frame of what is read alone. -/
theorem rows_arg {G : Gh} {w : World} (hG : ∀ k, G.γ k = none) {F : Fr} {ts : Array Value} (hb : F.boxes = []) (hs : ∀ (k : Nat) v, F.slots[k]? = some v → ∃ V, ts[k]? = some V ∧ ∀ key, RelAV G w key v V) {k : Key} {rows : List (List Cell)} (e : F.rowsAt k = some rows) (hi : k.inHeap) : RelCont G w k rows := by
  obtain ⟨r, π⟩ := k
  cases r with
  | slot j =>
    cases π with
    | nil => rcases hi with hi | hi <;> simp [Root.boxed] at hi
    | cons x π =>
      obtain ⟨a, b⟩ := x
      simp only [Fr.rowsAt, Fr.rows] at e
      cases hj : F.slots[j]? with
      | none => simp [hj] at e
      | some v =>
        simp only [hj, Option.map_some, Option.bind_some, getR] at e
        cases hc : cellAt v.rows a b with
        | none => simp [hc] at e
        | some c =>
          simp only [hc] at e
          obtain ⟨V, _, hr⟩ := hs j v hj
          obtain ⟨u, _, hsh⟩ := (hr ⟨.slot j, []⟩).2 a b c hc
          cases c with
          | own z rs =>
            rcases hsh with h | h
            · cases h
            · rcases h with ⟨_, hx, _⟩ | ⟨x, hx, _⟩
              · subst hx
                cases π with
                | nil =>
                  simp only [getR, Option.some.injEq] at e
                  subst e
                  exact .inl ⟨hG _, rfl, by simp⟩
                | cons y π => obtain ⟨y1, y2⟩ := y; simp [getR, cellAt] at e
              rw [hG] at hx
              cases hx
          | _ => simp at e
  | par i => simp [Fr.rowsAt, Fr.rows, hb] at e
  | loc i => simp [Fr.rowsAt, Fr.rows, hb] at e
  | res => simp [Fr.rowsAt, Fr.rows, hb] at e

theorem law_calls {H : Type} {enc : TypeId × Value → H} {P : Program} {f : Nat} {fn : Func} {w : World} {base : Nat} {T : List TypeId} {B : Nat} {args : Array Value} {ds : List (DataW H)} {ps : List MemPlace} {hand : Nat → Nat → Bool}
    (hT : plainT P T = true) (hR : rowsT P T = true) (hts : ∀ t ∈ fn.params.toList, t ∈ T) (hval : ∀ (j : Nat) t v, fn.params[j]? = some t → args[j]? = some v → Value.okWide P w .any base t v)
    (h : DataW.TrodAll enc P w 0 (fun _ => true) true fn.params.toList args.toList ds ps) (hb : Rows.uptoBulkAll ds ≤ B)
    (hev : ∀ ls, ShAll P B fn.params.toList ls → wtRs ls ≤ B → Ev P hand f (argAVs P fn.params.toList ls) [] (.ret (.c (bc true))) []) :
    Calls P f args w fun e w' => e = .returned (.bool true) ∧ Grown w w' ∧ ∀ b, b < w.heap.size → w'.heap[b]? = w.heap[b]? := by
  obtain ⟨ls, k1, k4, k2, k3⟩ := args_in (enc := enc) (B := B) hT hR fn.params.toList args.toList ds ps hts (fun j t v e1 e2 => hval j t v (by simpa using e1) (by simpa using e2)) h hb
  have hs : ∀ (k : Nat) v, (⟨argAVs P fn.params.toList ls, []⟩ : Fr).slots[k]? = some v → ∃ V, args[k]? = some V ∧ ∀ key, RelAV (G0of w) w key v V := by
    intro k v e
    obtain ⟨V, hV, hr⟩ := k3 k v e
    exact ⟨V, by simpa using hV, hr⟩
  have hrel : RelF (G0of w) w ⟨argAVs P fn.params.toList ls, parBoxes 0 []⟩ args := by
    refine ⟨⟨fun k k' h h' e => (by cases e), fun k h e => (by cases e), fun b hb => hb⟩, (by simpa using k2), fun k v e => ?_, fun r l e => (by cases e), fun d hd => hd.elim, fun k rows e hi => ?_⟩
    · obtain ⟨V, hV, hr⟩ := hs k v e
      exact ⟨V, hV, hr _⟩
    · exact (rows_arg (G := G0of w) (w := w) (fun _ => rfl) rfl hs e hi)
  refine ((hev ls k1 (Nat.le_trans k4 hb)).2 (G0of w) w args hrel).mono fun e w' hw => ?_
  obtain ⟨G', hg, V, rfl, hr⟩ := hw
  obtain ⟨V', hV, hav⟩ := hr.slots 0 _ rfl
  obtain ⟨u, hu, hsh⟩ := hav.2 0 0 (bc true) rfl
  have hVV : V' = V := by simpa using hV.symm
  subst hVV
  have hu' : u = V' := by simpa [compV, AV.c] using hu.symm
  subst hu'
  have hval : u = .bool true := by
    rcases hsh with h | h
    · cases h
    · exact h.1
  have keep : ∀ b, b < w.heap.size → w'.heap[b]? = w.heap[b]? := fun b hb => hg.keep b hb
  refine ⟨by rw [hval], ⟨⟨hg.out.1, hg.out.2.1, fun i hi => ?_⟩, hg.out.2.2, hg.size⟩, keep⟩
  rw [keep i hi]
  cases hh : w.heap[i]? with
  | none => rfl
  | some o => cases o <;> simp

theorem same_at {w w' : World} (h : ∀ b, b < w.heap.size → w'.heap[b]? = w.heap[b]?) {p : MemPlace} (hp : p.block < w.heap.size) : w.sameAt w' p := by
  cases p with
  | cell b o => simp only [World.sameAt, World.cell?]; first | rw [h b hp] | (simp [h b hp])
  | map b => simp only [World.sameAt]; first | rw [h b hp] | exact h b hp

theorem all_stay {H : Type} {enc : TypeId × Value → H} {P : Program} {w w' : World} (hl : laidOutB P = true) (h : ∀ b, b < w.heap.size → w'.heap[b]? = w.heap[b]?) {sp : Nat → Bool} :
    ∀ (ts : List TypeId) (vs : List Value) (ds : List (DataW H)) (ps : List MemPlace), (ts.all fun t => P.readableRec t && decide (t < P.types.size)) = true → (∀ p ∈ ps, p.block < w.heap.size ∧ sp p.block = true) →
      DataW.TrodAll enc P w 0 (fun _ => true) true ts vs ds ps → DataW.TrodAll enc P w' 0 sp true ts vs ds ps
  | [], vs, ds, ps, _, _, hd => by
    obtain ⟨rfl, rfl, rfl⟩ := trodAll_nil hd
    exact hd
  | t :: ts, vs, ds, ps, hr, hp, hd => by
    obtain ⟨v, vs', d, ds', p, q, rfl, rfl, rfl, h0, hrest⟩ := trodAll_cons hd
    simp only [List.all_cons, Bool.and_eq_true, decide_eq_true_eq] at hr
    exact ⟨p, q, WideElems.Trod_stays hl hr.1.1 hr.1.2 h0 (fun x hx => same_at h (hp x (List.mem_append_left _ hx)).1) (fun x hx => (hp x (List.mem_append_left _ hx)).2),
      all_stay hl h ts vs' ds' q hr.2 (fun x hx => hp x (List.mem_append_right _ hx)) hrest, rfl⟩

/-- A LAW's CONTRACT: the answer is true, and each argument reads as it read. -/
theorem law_post {H : Type} {enc : TypeId × Value → H} {P : Program} {f : Nat} {fn : Func} {s : ChangeSpec} {w : World} {base : Nat} {T : List TypeId} {B : Nat} {args : Array Value} {ds gs : List (DataW H)} {before : List MemPlace} {hand : Nat → Nat → Bool}
    (hT : plainT P T = true) (hR : rowsT P T = true) (hts : (fn.params.toList.all T.contains) = true) (hl : laidOutB P = true) (hrd : (fn.params.toList.all fun t => P.readableRec t && decide (t < P.types.size)) = true)
    (hvars : s.vars = []) (hspec : ∀ ds : List (DataW H), ds.length = fn.params.size → s.fn H ds = { results := [.lit (.bool true)], args := ds })
    (hres : ∃ t, fn.resultTypes = #[t] ∧ P.underlying t = some .bool)
    (hval : ∀ (j : Nat) t v, fn.params[j]? = some t → args[j]? = some v → Value.okWide P w .any base t v)
    (hW : DataW.Whole enc P fn.params.toList s.vars false w args.toList ds gs before) (hk : Rows.uptoBulkAll (ds ++ gs) ≤ B)
    (hev : ∀ ls, ShAll P B fn.params.toList ls → wtRs ls ≤ B → Ev P hand f (argAVs P fn.params.toList ls) [] (.ret (.c (bc true))) []) :
    Calls P f args w fun e w' => ∃ v, e = .returned v ∧ s.post enc P fn false true false false w args v w' := by
  have hW' := hW
  obtain ⟨p, q, hA, hV, rfl, hfz, hnd⟩ := hW
  rw [hvars] at hV
  obtain ⟨rfl, rfl⟩ := trodVars_none hV
  rw [List.append_nil] at hk hW'
  have hlen : ds.length = fn.params.size := by
    have : ∀ (ts : List TypeId) (vs : List Value) (ds : List (DataW H)) ps, DataW.TrodAll enc P w 0 (fun _ => true) true ts vs ds ps → ds.length = ts.length := by
      intro ts
      induction ts with
      | nil => intro vs ds ps h; obtain ⟨_, rfl, _⟩ := trodAll_nil h; rfl
      | cons t ts ih =>
        intro vs ds ps h
        obtain ⟨v, vs', d, ds', p, q, rfl, rfl, rfl, _, hr⟩ := trodAll_cons h
        simp [ih _ _ _ hr]
    have := this _ _ _ _ hA
    simpa using this
  obtain ⟨t, hrt, hub⟩ := hres
  refine (law_calls (enc := enc) (B := B) hT hR (fun t ht => by have := (List.all_eq_true.1 hts) t ht; simpa using this) hval hA hk hev).mono fun e w' ⟨he, hg, hkeep⟩ => ?_
  have hold : ∀ x ∈ p, x.block < w.heap.size := fun x hx => by
    have := hW'.lt x hx
    simpa using this
  refine ⟨_, he, post_of_same (pa := p) (pv := []) (before := p) (ds := ds) (gs := []) (by simpa using hW') (fun b sp hd => ?_) (fun sp hsp => ?_) (fun sp hsp => ?_) (by simp) (hg.frame _) hg.2.1 (ok_one hrt rfl (okWide_bool_mk hub _))⟩
  · rw [List.append_nil, hspec ds hlen, hrt]
    exact trodAll_cons_mk (shut_bool hub _) trodAll_mk0
  · rw [List.append_nil, hspec ds hlen]
    exact all_stay hl hkeep _ _ _ _ hrd (fun x hx => ⟨hold x hx, hsp x hx⟩) hA
  · rw [hvars, List.append_nil, hspec ds hlen]
    rfl
end Ab
end Go.Proofs.YtgghingfdcmelaaGreat
