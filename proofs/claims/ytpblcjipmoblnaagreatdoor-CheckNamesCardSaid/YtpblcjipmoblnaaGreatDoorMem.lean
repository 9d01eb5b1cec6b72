/- Mem -/
import Derived.Test.YtpblcjipmoblnaaGreatDoorFacts3
import Derived.WalkKit
import Derived.WalkSpells
import Derived.WalkLawsBesides
import Derived.Deep.QuietTactic
import Derived.BigQuiet
import Derived.Lib.Hide
import Derived.Deep.AppendLies
import Derived.Deep.Draws
set_option maxRecDepth 100000
set_option maxHeartbeats 4000000
set_option linter.unusedVariables false
set_option linter.unusedSimpArgs false
namespace Go.Proofs.YtpblcjipmoblnaaGreatDoor
open Go.RowKit Go.IntWalk
theorem ret_int {k : IntKind} {a b : Int} (h : a = b) : Ending.returned (.int k a) = .returned (.int k b) := by rw [h]
theorem below_drewN {B : Nat} {a w : World} (h : Below B a w) (n : Nat) : Below B a (w.drewN n) := ⟨h.os, h.tape, h.output, h.size, h.block⟩
theorem bcell {W w1 : World} (hb : Below W.heap.size W w1) : (∀ b o, b < W.heap.size → w1.cell? ⟨b, o, none⟩ = W.cell? ⟨b, o, none⟩) ∧ (∀ b o, b < W.heap.size → w1.frozen? ⟨b, o, none⟩ = W.frozen? ⟨b, o, none⟩) :=
 ⟨fun b o h => hb.cell (p := ⟨b, o, none⟩) h, fun b o h => hb.frozen (p := ⟨b, o, none⟩) h⟩
theorem bytes_ext {a b : ByteArray} (h : a.toList = b.toList) : a = b := by
 rw [ByteArray.toList_eq, ByteArray.toList_eq] at h
 obtain ⟨⟨x⟩⟩ := a
 obtain ⟨⟨y⟩⟩ := b
 simp only at h
 subst h
 rfl
theorem bytes_ne {a b : ByteArray} (h : a ≠ b) : (a.toList == b.toList) = false := by
 rw [beq_eq_false_iff_ne]
 exact fun e => h (bytes_ext e)
theorem bytes_beq (a b : ByteArray) : (a.toList == b.toList) = decide (a = b) := by
 by_cases h : a = b
 · subst h; simp
 · rw [bytes_ne h]; simp [h]
structure Keep (S : Nat → Prop) (w w' : World) : Prop where
 os : w'.os = w.os
 tape : w'.tape = w.tape
 output : w'.output = w.output
 size : w.heap.size ≤ w'.heap.size
 block : ∀ k, k < w.heap.size → ¬ S k → w'.heap[k]? = w.heap[k]?
namespace Keep
variable {S T : Nat → Prop} {a b c w w' : World}
theorem refl (S : Nat → Prop) (w : World) : Keep S w w := ⟨rfl, rfl, rfl, Nat.le_refl _, fun _ _ _ => rfl⟩
theorem trans (h : Keep S a b) (k : Keep T b c) (hT : ∀ i, i < a.heap.size → T i → S i) : Keep S a c :=
 ⟨k.os.trans h.os, k.tape.trans h.tape, k.output.trans h.output, Nat.le_trans h.size k.size, fun i hi hs => (k.block i (Nat.lt_of_lt_of_le hi h.size) (fun ht => hs (hT i hi ht))).trans (h.block i hi hs)⟩
theorem mono (h : Keep S a b) (hS : ∀ i, i < a.heap.size → S i → T i) : Keep T a b := ⟨h.os, h.tape, h.output, h.size, fun i hi hs => h.block i hi (fun x => hs (hS i hi x))⟩
theorem alloc (h : Keep S a w) (o : Obj) : Keep S a (w.alloc o) :=
 ⟨h.os, h.tape, h.output, Nat.le_trans h.size (by simp), fun i hi hs => (Below.heap_alloc w o i (Nat.lt_of_lt_of_le hi h.size)).trans (h.block i hi hs)⟩
theorem drew (h : Keep S a w) : Keep S a w.drew := ⟨h.os, h.tape, h.output, h.size, h.block⟩
theorem drewN (h : Keep S a w) (n : Nat) : Keep S a (w.drewN n) := ⟨h.os, h.tape, h.output, h.size, h.block⟩
theorem setCell (h : Keep S a w) {p : Addr} (hp : p.block < a.heap.size → S p.block) (u : Value) : Keep S a (w.setCell p u) :=
 ⟨h.os, h.tape, h.output, by simpa [World.setCell] using h.size, fun i hi hs => (Below.heap_setCell w p u i (by rintro rfl; exact hs (hp hi))).trans (h.block i hi hs)⟩
theorem of_below {B : Nat} (h : Below B a w) (hS : ∀ i, i < a.heap.size → B ≤ i → S i) : Keep S a w := ⟨h.os, h.tape, h.output, h.size, fun i hi hs => h.block i (Nat.lt_of_not_le fun hb => hs (hS i hi hb))⟩
theorem of_grown {row : Option Nat} (h : a.grownBy w row) (hS : ∀ k, row = some k → S k) : Keep S a w := ⟨h.os, h.tape, h.output, h.size, fun i hi hs => h.block i hi (fun e => hs (hS i e.symm))⟩
theorem below (h : Keep S a w) {B : Nat} (hB : B ≤ a.heap.size) (hS : ∀ i, i < B → ¬ S i) : Below B a w := ⟨h.os, h.tape, h.output, h.size, fun i hi => h.block i (Nat.lt_of_lt_of_le hi hB) (hS i hi)⟩
theorem cell (h : Keep S a w) {p : Addr} (hlt : p.block < a.heap.size) (hp : ¬ S p.block) : w.cell? p = a.cell? p := World.cell?_of_block (h.block _ hlt hp)
theorem frozen (h : Keep S a w) {p : Addr} (hlt : p.block < a.heap.size) (hp : ¬ S p.block) : w.frozen? p = a.frozen? p := World.frozen?_of_block (h.block _ hlt hp)
end Keep
def Var (w : World) (b : Nat) (t : TypeId) (v : Value) : Prop := w.heap[b]? = some (.cells #[v] t (0, 0))
theorem Var.lt {w : World} {b : Nat} {t : TypeId} {v : Value} (h : Var w b t v) : b < w.heap.size := (Array.getElem?_eq_some_iff.1 h).1
theorem Var.cell {w : World} {b : Nat} {t : TypeId} {v : Value} (h : Var w b t v) : w.cell? ⟨b, 0, none⟩ = some v := cell_of_one h
theorem Var.frozen {w : World} {b : Nat} {t : TypeId} {v : Value} (h : Var w b t v) : w.frozen? ⟨b, 0, none⟩ = false := free_of_one h
theorem Var.keep {S : Nat → Prop} {w w' : World} {b : Nat} {t : TypeId} {v : Value} (h : Var w b t v) (hk : Keep S w w') (hS : ¬ S b) : Var w' b t v := (hk.block b h.lt hS).trans h
theorem Var.set_ {w : World} {b : Nat} {t : TypeId} {v : Value} (h : Var w b t v) (u : Value) : Var (w.setCell ⟨b, 0, none⟩ u) b t u := by
 unfold Var at h ⊢
 simp [World.setCell, Array.getElem?_modify, h]
def CellsAt (w : World) (b o : Nat) (vs : List Value) : Prop := ∀ j v, vs[j]? = some v → w.cell? ⟨b, o + j, none⟩ = some v
theorem CellsAt.below {B : Nat} {w w' : World} {b o : Nat} {vs : List Value} (h : CellsAt w b o vs) (hb : Below B w w') (hlt : b < B) : CellsAt w' b o vs :=
 fun j v hv => (hb.cell (p := ⟨b, o + j, none⟩) hlt).trans (h j v hv)
theorem CellsAt.keep {S : Nat → Prop} {w w' : World} {b o : Nat} {vs : List Value} (h : CellsAt w b o vs) (hk : Keep S w w') (hlt : b < w.heap.size) (hS : ¬ S b) : CellsAt w' b o vs :=
 fun j v hv => (hk.cell (p := ⟨b, o + j, none⟩) hlt hS).trans (h j v hv)
def ListAt {α : Type} (B k : Nat) (R : World → Nat → Nat → α → Prop) (w : World) (A : Option Addr) (xs : List α) : Prop :=
 0 < xs.length → ∃ b off, A = some ⟨b, off, none⟩ ∧ b < B ∧ ∀ i x, xs[i]? = some x → R w b (off + i * k) x
def Stays {α : Type} (B : Nat) (R : World → Nat → Nat → α → Prop) : Prop := ∀ w w' b o x, Below B w w' → b < B → R w b o x → R w' b o x
theorem ListAt.below {α : Type} {B k : Nat} {R : World → Nat → Nat → α → Prop} (hR : Stays B R) {w w' : World} {A : Option Addr} {xs : List α} (h : ListAt B k R w A xs) (hb : Below B w w') : ListAt B k R w' A xs := by
 intro hn
 obtain ⟨b, off, e, hlt, hc⟩ := h hn
 exact ⟨b, off, e, hlt, fun i x hx => hR _ _ _ _ _ hb hlt (hc i x hx)⟩
open Ck
abbrev lim : Nat := 18446744073709551616
abbrev top : Nat := 2097152
def Short (s : ByteArray) : Prop := s.size ≤ 2097152
def Wide (n : Int) : Prop := -9223372036854775808 ≤ n ∧ n ≤ 9223372036854775807
def Ck.Ram.cells (x : Ram) : List Value := [.int .i64 x.pos, .int .u64 x.at_, .int .u64 x.size]
def Ck.Ram.Ok (x : Ram) : Prop := Wide x.pos ∧ x.at_ < lim ∧ x.size < lim
def Ck.Map.cells (x : Map) : List Value := [.int .i64 x.pos, .string x.of, .int .u64 x.at_, .bool x.write, .bool x.exec]
def Ck.Map.Ok (x : Map) : Prop := Wide x.pos ∧ x.at_ < lim ∧ Short x.of
def Ck.Region.cells (x : Region) : List Value := [.int .i64 x.pos, .string x.name, .int .u64 x.size, .bool x.fixed, .int .u64 x.at_, .bool x.big, .bool x.wx, .int .u64 x.fill, .bool x.texted, .string x.text]
def Ck.Region.Ok (x : Region) : Prop := Wide x.pos ∧ x.size < lim ∧ x.at_ < lim ∧ x.fill < lim ∧ Short x.name ∧ Short x.text
def Ck.Rule.cells (x : Rule) : List Value := [.int .i64 x.pos, .int .i64 x.how, .string x.to, .int .u64 x.vector]
def Ck.Rule.Ok (x : Rule) : Prop := Wide x.pos ∧ Wide x.how ∧ x.vector < lim ∧ Short x.to
def Ck.Channel.cells (x : Channel) : List Value := [.int .i64 x.pos, .string x.name, .string x.from_, .string x.to, .bool x.shared, .string x.over, .int .i64 x.how, .int .u64 x.vector]
def Ck.Channel.Ok (x : Channel) : Prop := Wide x.pos ∧ Wide x.how ∧ x.vector < lim ∧ Short x.name ∧ Short x.from_ ∧ Short x.to ∧ Short x.over
def Ck.Irq.cells (x : Irq) : List Value := [.int .i64 x.pos, .string x.name, .string x.from_, .string x.to, .int .u64 x.vector, .bool x.masked]
def Ck.Irq.Ok (x : Irq) : Prop := Wide x.pos ∧ x.vector < lim ∧ Short x.name ∧ Short x.from_ ∧ Short x.to
def Ck.Queue.cells (x : Queue) : List Value := [.int .i64 x.pos, .string x.name, .string x.from_, .string x.to, .int .i64 x.how, .int .u64 x.depth]
def Ck.Queue.Ok (x : Queue) : Prop := Wide x.pos ∧ Wide x.how ∧ x.depth < lim ∧ Short x.name ∧ Short x.from_ ∧ Short x.to
def Run.cells (x : Run) : List Value := [.int .i64 x.pos, .string x.subj, .int .u64 x.bud, .int .u64 x.per]
def Run.Ok (x : Run) : Prop := Wide x.pos ∧ x.bud < lim ∧ x.per < lim ∧ Short x.subj
def Ck.Pick.cells (x : Pick) : List Value := [.int .i64 x.pos, .string x.name]
def Ck.Pick.Ok (x : Pick) : Prop := Wide x.pos ∧ Short x.name
def Ck.Ban.cells (x : Ban) : List Value := [.int .i64 x.pos, .string x.from_, .string x.to]
def Ck.Ban.Ok (x : Ban) : Prop := Wide x.pos ∧ Short x.from_ ∧ Short x.to
def FlatAt {α : Type} (cells : α → List Value) (Ok : α → Prop) (w : World) (b o : Nat) (x : α) : Prop := CellsAt w b o (cells x) ∧ Ok x
theorem flat_stays {α : Type} (B : Nat) (cells : α → List Value) (Ok : α → Prop) : Stays B (FlatAt cells Ok) := fun _ _ _ _ _ hb hlt h => ⟨h.1.below hb hlt, h.2⟩
abbrev RamAt := FlatAt Ck.Ram.cells Ck.Ram.Ok
abbrev MapAt := FlatAt Ck.Map.cells Ck.Map.Ok
abbrev RegionAt := FlatAt Ck.Region.cells Ck.Region.Ok
abbrev RuleAt := FlatAt Ck.Rule.cells Ck.Rule.Ok
abbrev ChannelAt := FlatAt Ck.Channel.cells Ck.Channel.Ok
abbrev IrqAt := FlatAt Ck.Irq.cells Ck.Irq.Ok
abbrev QueueAt := FlatAt Ck.Queue.cells Ck.Queue.Ok
abbrev RunAt := FlatAt Run.cells Run.Ok
abbrev PickAt := FlatAt Ck.Pick.cells Ck.Pick.Ok
abbrev BanAt := FlatAt Ck.Ban.cells Ck.Ban.Ok
def SliceAt {α : Type} (B k : Nat) (R : World → Nat → Nat → α → Prop) (w : World) (v : Value) (xs : List α) : Prop :=
 ∃ A c, v = .slice A xs.length c ∧ xs.length ≤ c ∧ xs.length ≤ top ∧ ListAt B k R w A xs
theorem SliceAt.below {α : Type} {B k : Nat} {R : World → Nat → Nat → α → Prop} (hR : Stays B R) {w w' : World} {v : Value} {xs : List α} (h : SliceAt B k R w v xs) (hb : Below B w w') : SliceAt B k R w' v xs := by
 obtain ⟨A, c, e, hc, hn, hl⟩ := h
 exact ⟨A, c, e, hc, hn, hl.below hR hb⟩
def DeviceAt (B : Nat) (w : World) (b o : Nat) (x : Ck.Device) : Prop :=
 ∃ v, CellsAt w b o [.int .i64 x.pos, .string x.name, .int .u64 x.at_, .int .u64 x.size, v] ∧ SliceAt B 5 MapAt w v x.maps ∧ Wide x.pos ∧ x.at_ < lim ∧ x.size < lim ∧ Short x.name
theorem device_stays (B : Nat) : Stays B (DeviceAt B) := fun _ _ _ _ _ hb hlt ⟨v, h1, h2, h3⟩ => ⟨v, h1.below hb hlt, h2.below (flat_stays _ _ _) hb, h3⟩
def SubjectAt (B : Nat) (w : World) (b o : Nat) (x : Subject) : Prop :=
 ∃ v u, CellsAt w b o [.int .i64 x.pos, .string x.name, .int .u64 x.cpu, .bool x.stopped, v, u] ∧ SliceAt B 5 MapAt w v x.maps ∧ SliceAt B 4 RuleAt w u x.rules ∧ Wide x.pos ∧ x.cpu < lim ∧ Short x.name
theorem subject_stays (B : Nat) : Stays B (SubjectAt B) := fun _ _ _ _ _ hb hlt ⟨v, u, h1, h2, h3, h4⟩ => ⟨v, u, h1.below hb hlt, h2.below (flat_stays _ _ _) hb, h3.below (flat_stays _ _ _) hb, h4⟩
def LaneAt (B : Nat) (w : World) (b o : Nat) (x : Lane) : Prop :=
 ∃ v, CellsAt w b o [.int .i64 x.pos, .int .u64 x.cpu, .bool x.needs, v] ∧ SliceAt B 4 RunAt w v x.runs ∧ Wide x.pos ∧ x.cpu < lim
theorem lane_stays (B : Nat) : Stays B (LaneAt B) := fun _ _ _ _ _ hb hlt ⟨v, h1, h2, h3⟩ => ⟨v, h1.below hb hlt, h2.below (flat_stays _ _ _) hb, h3⟩
def PlanAt (B : Nat) (w : World) (b o : Nat) (x : Plan) : Prop :=
 ∃ v, CellsAt w b o [.int .i64 x.pos, .string x.name, .int .u64 x.major, v] ∧ SliceAt B 4 (LaneAt B) w v x.lanes ∧ Wide x.pos ∧ x.major < lim ∧ Short x.name
theorem plan_stays (B : Nat) : Stays B (PlanAt B) := fun _ _ _ _ _ hb hlt ⟨v, h1, h2, h3⟩ => ⟨v, h1.below hb hlt, h2.below (lane_stays B) hb, h3⟩
structure PolV where
 rams : Value
 devices : Value
 regions : Value
 subjects : Value
 channels : Value
 irqs : Value
 queues : Value
 plans : Value
 masters : Value
 starts : Value
 monitors : Value
 forbids : Value
def PolV.cells (v : PolV) (P : Policy) : List Value := [.int .i64 P.pos, .string P.name, v.rams, v.devices, v.regions, v.subjects, v.channels, v.irqs, v.queues, v.plans, v.masters, v.starts, v.monitors, v.forbids]
structure PolAt (B : Nat) (w : World) (v : PolV) (P : Policy) : Prop where
 rams : SliceAt B 3 RamAt w v.rams P.rams
 devices : SliceAt B 5 (DeviceAt B) w v.devices P.devices
 regions : SliceAt B 10 RegionAt w v.regions P.regions
 subjects : SliceAt B 6 (SubjectAt B) w v.subjects P.subjects
 channels : SliceAt B 8 ChannelAt w v.channels P.channels
 irqs : SliceAt B 6 IrqAt w v.irqs P.irqs
 queues : SliceAt B 6 QueueAt w v.queues P.queues
 plans : SliceAt B 4 (PlanAt B) w v.plans P.plans
 masters : SliceAt B 2 PickAt w v.masters P.masters
 starts : SliceAt B 2 PickAt w v.starts P.starts
 monitors : SliceAt B 2 PickAt w v.monitors P.monitors
 forbids : SliceAt B 3 BanAt w v.forbids P.forbids
 pos : Wide P.pos
 name : Short P.name
theorem PolAt.below {B : Nat} {w w' : World} {v : PolV} {P : Policy} (h : PolAt B w v P) (hb : Below B w w') : PolAt B w' v P :=
 ⟨h.rams.below (flat_stays _ _ _) hb, h.devices.below (device_stays B) hb, h.regions.below (flat_stays _ _ _) hb, h.subjects.below (subject_stays B) hb, h.channels.below (flat_stays _ _ _) hb, h.irqs.below (flat_stays _ _ _) hb,
  h.queues.below (flat_stays _ _ _) hb, h.plans.below (plan_stays B) hb, h.masters.below (flat_stays _ _ _) hb, h.starts.below (flat_stays _ _ _) hb, h.monitors.below (flat_stays _ _ _) hb, h.forbids.below (flat_stays _ _ _) hb, h.pos, h.name⟩
end Go.Proofs.YtpblcjipmoblnaaGreatDoor
