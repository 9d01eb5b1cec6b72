/- Most Spaces Counts AsE Small -/
import Derived.Test.YtpblcjipmoblnaaGreatDoorKnown
import Derived.Test.YtpblcjipmoblnaaGreatDoorIsEr
set_option maxRecDepth 100000
set_option maxHeartbeats 4000000
set_option linter.unusedVariables false
set_option linter.unusedSimpArgs false
namespace Go.Proofs.YtpblcjipmoblnaaGreatDoor
open Go.RowKit Go.IntWalk Ck
theorem posRam (x : Ck.Ram) (w : World) : Calls Tryz.prog 78 #[.agg #[.int .i64 x.pos, .int .u64 x.at_, .int .u64 x.size]] w fun e w' => e = .returned (.int .i64 x.pos) ∧ Keep (fun _ => False) w w' := by
 go_enter Tryz.func78, Tryz.ntmps78
 go_wp2
 go_ret
 exact ⟨rfl, (Keep.refl _ w).alloc _⟩
theorem mostRam {B : Nat} {w : World} {pb : Nat} {v : PolV} {P : Policy} {L : List Wr} (h : LookAt B w pb v P why2 L) {u : Value} {xs : List Ck.Ram} (hs : SliceAt B 3 RamAt w u xs) (n : Nat) (hn : n ≤ 65536) :
 Calls Tryz.prog 77 #[.pointer (some ⟨pb, 0, none⟩), u, .int .i64 n, .func (.func 78) #[] #[]] w fun e w' => e = .returned (.tuple #[]) ∧ LookAt B w' pb v P why2 (most Ck.Ram.pos n xs ++ L) ∧ Keep (fun k => k = pb) w w' := by
 obtain ⟨A, c, rfl, hnc, hn0, hl⟩ := hs
 unfold top at hn0
 by_cases hlt : n < xs.length
 · obtain ⟨bl, off, rfl, hbl, hcs⟩ := hl (by omega)
   obtain ⟨x, hx⟩ : ∃ x, xs[n]? = some x := ⟨_, List.getElem?_eq_getElem hlt⟩
   obtain ⟨hc, _⟩ := hcs n x hx
   have hm : most Ck.Ram.pos n xs = [(x.pos, 0)] := by unfold most; rw [hx]
   rw [hm]
   have q0 := hc.c0
   have q1 := hc 1 _ rfl
   have q2 := hc 2 _ rfl
   clear hc hcs hx hm hl
   go_enter Tryz.func77, Tryz.ntmps77
   go_wp2_with fail
   refine (posRam x _).mono ?_
   rintro e w1 ⟨rfl, hk⟩
   have h1 := h.new hk
   have HK := Lib.hid hk
   clear hk
   go_wp2_with fail
   refine (tell_any x.pos 0 4 h1 rfl).mono ?_
   rintro e w2 ⟨rfl, h2, hk2⟩
   have HK2 := Lib.hid hk2
   clear hk2
   go_wp2
   go_end0
   exact ⟨rfl, h2, (HK.out.mono (T := fun k => k = pb) fun _ _ h => h.elim).trans HK2.out (fun _ _ e => e)⟩
 · have hm : most Ck.Ram.pos n xs = [] := by unfold most; rw [List.getElem?_eq_none (by omega)]
   rw [hm]
   go_enter Tryz.func77, Tryz.ntmps77
   go_wp2
   go_end0
   exact ⟨rfl, h, Keep.refl _ _⟩
theorem posDevice (x : Ck.Device) (Am : Option Addr) (cm : Nat) (w : World) : Calls Tryz.prog 80 #[.agg #[.int .i64 x.pos, .string x.name, .int .u64 x.at_, .int .u64 x.size, .slice Am x.maps.length cm]] w fun e w' => e = .returned (.int .i64 x.pos) ∧ Keep (fun _ => False) w w' := by
 go_enter Tryz.func80, Tryz.ntmps80
 go_wp2
 go_ret
 exact ⟨rfl, (Keep.refl _ w).alloc _⟩
theorem mostDevice {B : Nat} {w : World} {pb : Nat} {v : PolV} {P : Policy} {L : List Wr} (h : LookAt B w pb v P why2 L) {u : Value} {xs : List Ck.Device} (hs : SliceAt B 5 (DeviceAt B) w u xs) (n : Nat) (hn : n ≤ 65536) :
 Calls Tryz.prog 79 #[.pointer (some ⟨pb, 0, none⟩), u, .int .i64 n, .func (.func 80) #[] #[]] w fun e w' => e = .returned (.tuple #[]) ∧ LookAt B w' pb v P why2 (most Ck.Device.pos n xs ++ L) ∧ Keep (fun k => k = pb) w w' := by
 obtain ⟨A, c, rfl, hnc, hn0, hl⟩ := hs
 unfold top at hn0
 by_cases hlt : n < xs.length
 · obtain ⟨bl, off, rfl, hbl, hcs⟩ := hl (by omega)
   obtain ⟨x, hx⟩ : ∃ x, xs[n]? = some x := ⟨_, List.getElem?_eq_getElem hlt⟩
   obtain ⟨u1, hc, ⟨Am, cm, rfl, _⟩, _⟩ := hcs n x hx
   have hm : most Ck.Device.pos n xs = [(x.pos, 0)] := by unfold most; rw [hx]
   rw [hm]
   have q0 := hc.c0
   have q1 := hc 1 _ rfl
   have q2 := hc 2 _ rfl
   have q3 := hc 3 _ rfl
   have q4 := hc 4 _ rfl
   clear hc hcs hx hm hl
   go_enter Tryz.func79, Tryz.ntmps79
   go_wp2_with fail
   refine (posDevice x Am cm _).mono ?_
   rintro e w1 ⟨rfl, hk⟩
   have h1 := h.new hk
   have HK := Lib.hid hk
   clear hk
   go_wp2_with fail
   refine (tell_any x.pos 0 4 h1 rfl).mono ?_
   rintro e w2 ⟨rfl, h2, hk2⟩
   have HK2 := Lib.hid hk2
   clear hk2
   go_wp2
   go_end0
   exact ⟨rfl, h2, (HK.out.mono (T := fun k => k = pb) fun _ _ h => h.elim).trans HK2.out (fun _ _ e => e)⟩
 · have hm : most Ck.Device.pos n xs = [] := by unfold most; rw [List.getElem?_eq_none (by omega)]
   rw [hm]
   go_enter Tryz.func79, Tryz.ntmps79
   go_wp2
   go_end0
   exact ⟨rfl, h, Keep.refl _ _⟩
theorem posRegion (x : Ck.Region) (w : World) : Calls Tryz.prog 82 #[.agg #[.int .i64 x.pos, .string x.name, .int .u64 x.size, .bool x.fixed, .int .u64 x.at_, .bool x.big, .bool x.wx, .int .u64 x.fill, .bool x.texted, .string x.text]] w fun e w' => e = .returned (.int .i64 x.pos) ∧ Keep (fun _ => False) w w' := by
 go_enter Tryz.func82, Tryz.ntmps82
 go_wp2
 go_ret
 exact ⟨rfl, (Keep.refl _ w).alloc _⟩
theorem mostRegion {B : Nat} {w : World} {pb : Nat} {v : PolV} {P : Policy} {L : List Wr} (h : LookAt B w pb v P why2 L) {u : Value} {xs : List Ck.Region} (hs : SliceAt B 10 RegionAt w u xs) (n : Nat) (hn : n ≤ 65536) :
 Calls Tryz.prog 81 #[.pointer (some ⟨pb, 0, none⟩), u, .int .i64 n, .func (.func 82) #[] #[]] w fun e w' => e = .returned (.tuple #[]) ∧ LookAt B w' pb v P why2 (most Ck.Region.pos n xs ++ L) ∧ Keep (fun k => k = pb) w w' := by
 obtain ⟨A, c, rfl, hnc, hn0, hl⟩ := hs
 unfold top at hn0
 by_cases hlt : n < xs.length
 · obtain ⟨bl, off, rfl, hbl, hcs⟩ := hl (by omega)
   obtain ⟨x, hx⟩ : ∃ x, xs[n]? = some x := ⟨_, List.getElem?_eq_getElem hlt⟩
   obtain ⟨hc, _⟩ := hcs n x hx
   have hm : most Ck.Region.pos n xs = [(x.pos, 0)] := by unfold most; rw [hx]
   rw [hm]
   have q0 := hc.c0
   have q1 := hc 1 _ rfl
   have q2 := hc 2 _ rfl
   have q3 := hc 3 _ rfl
   have q4 := hc 4 _ rfl
   have q5 := hc 5 _ rfl
   have q6 := hc 6 _ rfl
   have q7 := hc 7 _ rfl
   have q8 := hc 8 _ rfl
   have q9 := hc 9 _ rfl
   clear hc hcs hx hm hl
   go_enter Tryz.func81, Tryz.ntmps81
   go_wp2_with fail
   refine (posRegion x _).mono ?_
   rintro e w1 ⟨rfl, hk⟩
   have h1 := h.new hk
   have HK := Lib.hid hk
   clear hk
   go_wp2_with fail
   refine (tell_any x.pos 0 4 h1 rfl).mono ?_
   rintro e w2 ⟨rfl, h2, hk2⟩
   have HK2 := Lib.hid hk2
   clear hk2
   go_wp2
   go_end0
   exact ⟨rfl, h2, (HK.out.mono (T := fun k => k = pb) fun _ _ h => h.elim).trans HK2.out (fun _ _ e => e)⟩
 · have hm : most Ck.Region.pos n xs = [] := by unfold most; rw [List.getElem?_eq_none (by omega)]
   rw [hm]
   go_enter Tryz.func81, Tryz.ntmps81
   go_wp2
   go_end0
   exact ⟨rfl, h, Keep.refl _ _⟩
theorem posSubject (x : Ck.Subject) (Am : Option Addr) (cm : Nat) (Am2 : Option Addr) (cm2 : Nat) (w : World) : Calls Tryz.prog 84 #[.agg #[.int .i64 x.pos, .string x.name, .int .u64 x.cpu, .bool x.stopped, .slice Am x.maps.length cm, .slice Am2 x.rules.length cm2]] w fun e w' => e = .returned (.int .i64 x.pos) ∧ Keep (fun _ => False) w w' := by
 go_enter Tryz.func84, Tryz.ntmps84
 go_wp2
 go_ret
 exact ⟨rfl, (Keep.refl _ w).alloc _⟩
theorem mostSubject {B : Nat} {w : World} {pb : Nat} {v : PolV} {P : Policy} {L : List Wr} (h : LookAt B w pb v P why2 L) {u : Value} {xs : List Ck.Subject} (hs : SliceAt B 6 (SubjectAt B) w u xs) (n : Nat) (hn : n ≤ 65536) :
 Calls Tryz.prog 83 #[.pointer (some ⟨pb, 0, none⟩), u, .int .i64 n, .func (.func 84) #[] #[]] w fun e w' => e = .returned (.tuple #[]) ∧ LookAt B w' pb v P why2 (most Ck.Subject.pos n xs ++ L) ∧ Keep (fun k => k = pb) w w' := by
 obtain ⟨A, c, rfl, hnc, hn0, hl⟩ := hs
 unfold top at hn0
 by_cases hlt : n < xs.length
 · obtain ⟨bl, off, rfl, hbl, hcs⟩ := hl (by omega)
   obtain ⟨x, hx⟩ : ∃ x, xs[n]? = some x := ⟨_, List.getElem?_eq_getElem hlt⟩
   obtain ⟨u1, u2, hc, ⟨Am, cm, rfl, _⟩, ⟨Am2, cm2, rfl, _⟩, _⟩ := hcs n x hx
   have hm : most Ck.Subject.pos n xs = [(x.pos, 0)] := by unfold most; rw [hx]
   rw [hm]
   have q0 := hc.c0
   have q1 := hc 1 _ rfl
   have q2 := hc 2 _ rfl
   have q3 := hc 3 _ rfl
   have q4 := hc 4 _ rfl
   have q5 := hc 5 _ rfl
   clear hc hcs hx hm hl
   go_enter Tryz.func83, Tryz.ntmps83
   go_wp2_with fail
   refine (posSubject x Am cm Am2 cm2 _).mono ?_
   rintro e w1 ⟨rfl, hk⟩
   have h1 := h.new hk
   have HK := Lib.hid hk
   clear hk
   go_wp2_with fail
   refine (tell_any x.pos 0 4 h1 rfl).mono ?_
   rintro e w2 ⟨rfl, h2, hk2⟩
   have HK2 := Lib.hid hk2
   clear hk2
   go_wp2
   go_end0
   exact ⟨rfl, h2, (HK.out.mono (T := fun k => k = pb) fun _ _ h => h.elim).trans HK2.out (fun _ _ e => e)⟩
 · have hm : most Ck.Subject.pos n xs = [] := by unfold most; rw [List.getElem?_eq_none (by omega)]
   rw [hm]
   go_enter Tryz.func83, Tryz.ntmps83
   go_wp2
   go_end0
   exact ⟨rfl, h, Keep.refl _ _⟩
theorem posChannel (x : Ck.Channel) (w : World) : Calls Tryz.prog 86 #[.agg #[.int .i64 x.pos, .string x.name, .string x.from_, .string x.to, .bool x.shared, .string x.over, .int .i64 x.how, .int .u64 x.vector]] w fun e w' => e = .returned (.int .i64 x.pos) ∧ Keep (fun _ => False) w w' := by
 go_enter Tryz.func86, Tryz.ntmps86
 go_wp2
 go_ret
 exact ⟨rfl, (Keep.refl _ w).alloc _⟩
theorem mostChannel {B : Nat} {w : World} {pb : Nat} {v : PolV} {P : Policy} {L : List Wr} (h : LookAt B w pb v P why2 L) {u : Value} {xs : List Ck.Channel} (hs : SliceAt B 8 ChannelAt w u xs) (n : Nat) (hn : n ≤ 65536) :
 Calls Tryz.prog 85 #[.pointer (some ⟨pb, 0, none⟩), u, .int .i64 n, .func (.func 86) #[] #[]] w fun e w' => e = .returned (.tuple #[]) ∧ LookAt B w' pb v P why2 (most Ck.Channel.pos n xs ++ L) ∧ Keep (fun k => k = pb) w w' := by
 obtain ⟨A, c, rfl, hnc, hn0, hl⟩ := hs
 unfold top at hn0
 by_cases hlt : n < xs.length
 · obtain ⟨bl, off, rfl, hbl, hcs⟩ := hl (by omega)
   obtain ⟨x, hx⟩ : ∃ x, xs[n]? = some x := ⟨_, List.getElem?_eq_getElem hlt⟩
   obtain ⟨hc, _⟩ := hcs n x hx
   have hm : most Ck.Channel.pos n xs = [(x.pos, 0)] := by unfold most; rw [hx]
   rw [hm]
   have q0 := hc.c0
   have q1 := hc 1 _ rfl
   have q2 := hc 2 _ rfl
   have q3 := hc 3 _ rfl
   have q4 := hc 4 _ rfl
   have q5 := hc 5 _ rfl
   have q6 := hc 6 _ rfl
   have q7 := hc 7 _ rfl
   clear hc hcs hx hm hl
   go_enter Tryz.func85, Tryz.ntmps85
   go_wp2_with fail
   refine (posChannel x _).mono ?_
   rintro e w1 ⟨rfl, hk⟩
   have h1 := h.new hk
   have HK := Lib.hid hk
   clear hk
   go_wp2_with fail
   refine (tell_any x.pos 0 4 h1 rfl).mono ?_
   rintro e w2 ⟨rfl, h2, hk2⟩
   have HK2 := Lib.hid hk2
   clear hk2
   go_wp2
   go_end0
   exact ⟨rfl, h2, (HK.out.mono (T := fun k => k = pb) fun _ _ h => h.elim).trans HK2.out (fun _ _ e => e)⟩
 · have hm : most Ck.Channel.pos n xs = [] := by unfold most; rw [List.getElem?_eq_none (by omega)]
   rw [hm]
   go_enter Tryz.func85, Tryz.ntmps85
   go_wp2
   go_end0
   exact ⟨rfl, h, Keep.refl _ _⟩
theorem posIrq (x : Ck.Irq) (w : World) : Calls Tryz.prog 88 #[.agg #[.int .i64 x.pos, .string x.name, .string x.from_, .string x.to, .int .u64 x.vector, .bool x.masked]] w fun e w' => e = .returned (.int .i64 x.pos) ∧ Keep (fun _ => False) w w' := by
 go_enter Tryz.func88, Tryz.ntmps88
 go_wp2
 go_ret
 exact ⟨rfl, (Keep.refl _ w).alloc _⟩
theorem mostIrq {B : Nat} {w : World} {pb : Nat} {v : PolV} {P : Policy} {L : List Wr} (h : LookAt B w pb v P why2 L) {u : Value} {xs : List Ck.Irq} (hs : SliceAt B 6 IrqAt w u xs) (n : Nat) (hn : n ≤ 65536) :
 Calls Tryz.prog 87 #[.pointer (some ⟨pb, 0, none⟩), u, .int .i64 n, .func (.func 88) #[] #[]] w fun e w' => e = .returned (.tuple #[]) ∧ LookAt B w' pb v P why2 (most Ck.Irq.pos n xs ++ L) ∧ Keep (fun k => k = pb) w w' := by
 obtain ⟨A, c, rfl, hnc, hn0, hl⟩ := hs
 unfold top at hn0
 by_cases hlt : n < xs.length
 · obtain ⟨bl, off, rfl, hbl, hcs⟩ := hl (by omega)
   obtain ⟨x, hx⟩ : ∃ x, xs[n]? = some x := ⟨_, List.getElem?_eq_getElem hlt⟩
   obtain ⟨hc, _⟩ := hcs n x hx
   have hm : most Ck.Irq.pos n xs = [(x.pos, 0)] := by unfold most; rw [hx]
   rw [hm]
   have q0 := hc.c0
   have q1 := hc 1 _ rfl
   have q2 := hc 2 _ rfl
   have q3 := hc 3 _ rfl
   have q4 := hc 4 _ rfl
   have q5 := hc 5 _ rfl
   clear hc hcs hx hm hl
   go_enter Tryz.func87, Tryz.ntmps87
   go_wp2_with fail
   refine (posIrq x _).mono ?_
   rintro e w1 ⟨rfl, hk⟩
   have h1 := h.new hk
   have HK := Lib.hid hk
   clear hk
   go_wp2_with fail
   refine (tell_any x.pos 0 4 h1 rfl).mono ?_
   rintro e w2 ⟨rfl, h2, hk2⟩
   have HK2 := Lib.hid hk2
   clear hk2
   go_wp2
   go_end0
   exact ⟨rfl, h2, (HK.out.mono (T := fun k => k = pb) fun _ _ h => h.elim).trans HK2.out (fun _ _ e => e)⟩
 · have hm : most Ck.Irq.pos n xs = [] := by unfold most; rw [List.getElem?_eq_none (by omega)]
   rw [hm]
   go_enter Tryz.func87, Tryz.ntmps87
   go_wp2
   go_end0
   exact ⟨rfl, h, Keep.refl _ _⟩
theorem posQueue (x : Ck.Queue) (w : World) : Calls Tryz.prog 90 #[.agg #[.int .i64 x.pos, .string x.name, .string x.from_, .string x.to, .int .i64 x.how, .int .u64 x.depth]] w fun e w' => e = .returned (.int .i64 x.pos) ∧ Keep (fun _ => False) w w' := by
 go_enter Tryz.func90, Tryz.ntmps90
 go_wp2
 go_ret
 exact ⟨rfl, (Keep.refl _ w).alloc _⟩
theorem mostQueue {B : Nat} {w : World} {pb : Nat} {v : PolV} {P : Policy} {L : List Wr} (h : LookAt B w pb v P why2 L) {u : Value} {xs : List Ck.Queue} (hs : SliceAt B 6 QueueAt w u xs) (n : Nat) (hn : n ≤ 65536) :
 Calls Tryz.prog 89 #[.pointer (some ⟨pb, 0, none⟩), u, .int .i64 n, .func (.func 90) #[] #[]] w fun e w' => e = .returned (.tuple #[]) ∧ LookAt B w' pb v P why2 (most Ck.Queue.pos n xs ++ L) ∧ Keep (fun k => k = pb) w w' := by
 obtain ⟨A, c, rfl, hnc, hn0, hl⟩ := hs
 unfold top at hn0
 by_cases hlt : n < xs.length
 · obtain ⟨bl, off, rfl, hbl, hcs⟩ := hl (by omega)
   obtain ⟨x, hx⟩ : ∃ x, xs[n]? = some x := ⟨_, List.getElem?_eq_getElem hlt⟩
   obtain ⟨hc, _⟩ := hcs n x hx
   have hm : most Ck.Queue.pos n xs = [(x.pos, 0)] := by unfold most; rw [hx]
   rw [hm]
   have q0 := hc.c0
   have q1 := hc 1 _ rfl
   have q2 := hc 2 _ rfl
   have q3 := hc 3 _ rfl
   have q4 := hc 4 _ rfl
   have q5 := hc 5 _ rfl
   clear hc hcs hx hm hl
   go_enter Tryz.func89, Tryz.ntmps89
   go_wp2_with fail
   refine (posQueue x _).mono ?_
   rintro e w1 ⟨rfl, hk⟩
   have h1 := h.new hk
   have HK := Lib.hid hk
   clear hk
   go_wp2_with fail
   refine (tell_any x.pos 0 4 h1 rfl).mono ?_
   rintro e w2 ⟨rfl, h2, hk2⟩
   have HK2 := Lib.hid hk2
   clear hk2
   go_wp2
   go_end0
   exact ⟨rfl, h2, (HK.out.mono (T := fun k => k = pb) fun _ _ h => h.elim).trans HK2.out (fun _ _ e => e)⟩
 · have hm : most Ck.Queue.pos n xs = [] := by unfold most; rw [List.getElem?_eq_none (by omega)]
   rw [hm]
   go_enter Tryz.func89, Tryz.ntmps89
   go_wp2
   go_end0
   exact ⟨rfl, h, Keep.refl _ _⟩
theorem posBan (x : Ck.Ban) (w : World) : Calls Tryz.prog 92 #[.agg #[.int .i64 x.pos, .string x.from_, .string x.to]] w fun e w' => e = .returned (.int .i64 x.pos) ∧ Keep (fun _ => False) w w' := by
 go_enter Tryz.func92, Tryz.ntmps92
 go_wp2
 go_ret
 exact ⟨rfl, (Keep.refl _ w).alloc _⟩
theorem mostBan {B : Nat} {w : World} {pb : Nat} {v : PolV} {P : Policy} {L : List Wr} (h : LookAt B w pb v P why2 L) {u : Value} {xs : List Ck.Ban} (hs : SliceAt B 3 BanAt w u xs) (n : Nat) (hn : n ≤ 65536) :
 Calls Tryz.prog 91 #[.pointer (some ⟨pb, 0, none⟩), u, .int .i64 n, .func (.func 92) #[] #[]] w fun e w' => e = .returned (.tuple #[]) ∧ LookAt B w' pb v P why2 (most Ck.Ban.pos n xs ++ L) ∧ Keep (fun k => k = pb) w w' := by
 obtain ⟨A, c, rfl, hnc, hn0, hl⟩ := hs
 unfold top at hn0
 by_cases hlt : n < xs.length
 · obtain ⟨bl, off, rfl, hbl, hcs⟩ := hl (by omega)
   obtain ⟨x, hx⟩ : ∃ x, xs[n]? = some x := ⟨_, List.getElem?_eq_getElem hlt⟩
   obtain ⟨hc, _⟩ := hcs n x hx
   have hm : most Ck.Ban.pos n xs = [(x.pos, 0)] := by unfold most; rw [hx]
   rw [hm]
   have q0 := hc.c0
   have q1 := hc 1 _ rfl
   have q2 := hc 2 _ rfl
   clear hc hcs hx hm hl
   go_enter Tryz.func91, Tryz.ntmps91
   go_wp2_with fail
   refine (posBan x _).mono ?_
   rintro e w1 ⟨rfl, hk⟩
   have h1 := h.new hk
   have HK := Lib.hid hk
   clear hk
   go_wp2_with fail
   refine (tell_any x.pos 0 4 h1 rfl).mono ?_
   rintro e w2 ⟨rfl, h2, hk2⟩
   have HK2 := Lib.hid hk2
   clear hk2
   go_wp2
   go_end0
   exact ⟨rfl, h2, (HK.out.mono (T := fun k => k = pb) fun _ _ h => h.elim).trans HK2.out (fun _ _ e => e)⟩
 · have hm : most Ck.Ban.pos n xs = [] := by unfold most; rw [List.getElem?_eq_none (by omega)]
   rw [hm]
   go_enter Tryz.func91, Tryz.ntmps91
   go_wp2
   go_end0
   exact ⟨rfl, h, Keep.refl _ _⟩
theorem posPlan (x : Ck.Plan) (Am : Option Addr) (cm : Nat) (w : World) : Calls Tryz.prog 94 #[.agg #[.int .i64 x.pos, .string x.name, .int .u64 x.major, .slice Am x.lanes.length cm]] w fun e w' => e = .returned (.int .i64 x.pos) ∧ Keep (fun _ => False) w w' := by
 go_enter Tryz.func94, Tryz.ntmps94
 go_wp2
 go_ret
 exact ⟨rfl, (Keep.refl _ w).alloc _⟩
theorem mostPlan {B : Nat} {w : World} {pb : Nat} {v : PolV} {P : Policy} {L : List Wr} (h : LookAt B w pb v P why2 L) {u : Value} {xs : List Ck.Plan} (hs : SliceAt B 4 (PlanAt B) w u xs) (n : Nat) (hn : n ≤ 65536) :
 Calls Tryz.prog 93 #[.pointer (some ⟨pb, 0, none⟩), u, .int .i64 n, .func (.func 94) #[] #[]] w fun e w' => e = .returned (.tuple #[]) ∧ LookAt B w' pb v P why2 (most Ck.Plan.pos n xs ++ L) ∧ Keep (fun k => k = pb) w w' := by
 obtain ⟨A, c, rfl, hnc, hn0, hl⟩ := hs
 unfold top at hn0
 by_cases hlt : n < xs.length
 · obtain ⟨bl, off, rfl, hbl, hcs⟩ := hl (by omega)
   obtain ⟨x, hx⟩ : ∃ x, xs[n]? = some x := ⟨_, List.getElem?_eq_getElem hlt⟩
   obtain ⟨u1, hc, ⟨Am, cm, rfl, _⟩, _⟩ := hcs n x hx
   have hm : most Ck.Plan.pos n xs = [(x.pos, 0)] := by unfold most; rw [hx]
   rw [hm]
   have q0 := hc.c0
   have q1 := hc 1 _ rfl
   have q2 := hc 2 _ rfl
   have q3 := hc 3 _ rfl
   clear hc hcs hx hm hl
   go_enter Tryz.func93, Tryz.ntmps93
   go_wp2_with fail
   refine (posPlan x Am cm _).mono ?_
   rintro e w1 ⟨rfl, hk⟩
   have h1 := h.new hk
   have HK := Lib.hid hk
   clear hk
   go_wp2_with fail
   refine (tell_any x.pos 0 4 h1 rfl).mono ?_
   rintro e w2 ⟨rfl, h2, hk2⟩
   have HK2 := Lib.hid hk2
   clear hk2
   go_wp2
   go_end0
   exact ⟨rfl, h2, (HK.out.mono (T := fun k => k = pb) fun _ _ h => h.elim).trans HK2.out (fun _ _ e => e)⟩
 · have hm : most Ck.Plan.pos n xs = [] := by unfold most; rw [List.getElem?_eq_none (by omega)]
   rw [hm]
   go_enter Tryz.func93, Tryz.ntmps93
   go_wp2
   go_end0
   exact ⟨rfl, h, Keep.refl _ _⟩
theorem posMap (x : Ck.Map) (w : World) : Calls Tryz.prog 97 #[.agg #[.int .i64 x.pos, .string x.of, .int .u64 x.at_, .bool x.write, .bool x.exec]] w fun e w' => e = .returned (.int .i64 x.pos) ∧ Keep (fun _ => False) w w' := by
 go_enter Tryz.func97, Tryz.ntmps97
 go_wp2
 go_ret
 exact ⟨rfl, (Keep.refl _ w).alloc _⟩
theorem mostMap {B : Nat} {w : World} {pb : Nat} {v : PolV} {P : Policy} {L : List Wr} (h : LookAt B w pb v P why2 L) {u : Value} {xs : List Ck.Map} (hs : SliceAt B 5 MapAt w u xs) (n : Nat) (hn : n ≤ 65536) :
 Calls Tryz.prog 96 #[.pointer (some ⟨pb, 0, none⟩), u, .int .i64 n, .func (.func 97) #[] #[]] w fun e w' => e = .returned (.tuple #[]) ∧ LookAt B w' pb v P why2 (most Ck.Map.pos n xs ++ L) ∧ Keep (fun k => k = pb) w w' := by
 obtain ⟨A, c, rfl, hnc, hn0, hl⟩ := hs
 unfold top at hn0
 by_cases hlt : n < xs.length
 · obtain ⟨bl, off, rfl, hbl, hcs⟩ := hl (by omega)
   obtain ⟨x, hx⟩ : ∃ x, xs[n]? = some x := ⟨_, List.getElem?_eq_getElem hlt⟩
   obtain ⟨hc, _⟩ := hcs n x hx
   have hm : most Ck.Map.pos n xs = [(x.pos, 0)] := by unfold most; rw [hx]
   rw [hm]
   have q0 := hc.c0
   have q1 := hc 1 _ rfl
   have q2 := hc 2 _ rfl
   have q3 := hc 3 _ rfl
   have q4 := hc 4 _ rfl
   clear hc hcs hx hm hl
   go_enter Tryz.func96, Tryz.ntmps96
   go_wp2_with fail
   refine (posMap x _).mono ?_
   rintro e w1 ⟨rfl, hk⟩
   have h1 := h.new hk
   have HK := Lib.hid hk
   clear hk
   go_wp2_with fail
   refine (tell_any x.pos 0 4 h1 rfl).mono ?_
   rintro e w2 ⟨rfl, h2, hk2⟩
   have HK2 := Lib.hid hk2
   clear hk2
   go_wp2
   go_end0
   exact ⟨rfl, h2, (HK.out.mono (T := fun k => k = pb) fun _ _ h => h.elim).trans HK2.out (fun _ _ e => e)⟩
 · have hm : most Ck.Map.pos n xs = [] := by unfold most; rw [List.getElem?_eq_none (by omega)]
   rw [hm]
   go_enter Tryz.func96, Tryz.ntmps96
   go_wp2
   go_end0
   exact ⟨rfl, h, Keep.refl _ _⟩
def SpV (B : Nat) (w : World) (vals : List Value) (ls : List (List Map)) : Prop :=
 vals.length = ls.length ∧ ∀ (i : Nat) (u : Value) (l : List Map), vals[i]? = some u → ls[i]? = some l → SliceAt B 5 MapAt w u l
theorem SpV.snoc {B : Nat} {w : World} {vals : List Value} {ls : List (List Map)} (h : SpV B w vals ls) {u : Value} {l : List Map} (hu : SliceAt B 5 MapAt w u l) : SpV B w (vals ++ [u]) (ls ++ [l]) := by
 refine ⟨by simp [h.1], fun i v m hv hm => ?_⟩
 rcases Nat.lt_or_ge i vals.length with hi | hi
 · rw [List.getElem?_append_left hi] at hv
   rw [List.getElem?_append_left (by rw [← h.1]; exact hi)] at hm
   exact h.2 i v m hv hm
 · rw [List.getElem?_append_right hi] at hv
   rw [List.getElem?_append_right (by rw [← h.1]; exact hi), ← h.1] at hm
   cases hj : i - vals.length with
   | zero =>
    rw [hj] at hv hm
    simp only [List.getElem?_cons_zero, Option.some.injEq] at hv hm
    subst hv hm
    exact hu
   | succ j => rw [hj] at hv; simp at hv
theorem Tryz.info43 : (Tryz.prog.info? 43).map (fun i => (i.zero, i.size, i.bytes)) = some (some (.slice none 0 0), 1, 24) := by kernel_rfl
theorem below_keepF {z : Nat} {w w' : World} (h : Below z w w') (hz : z = w.heap.size) : Keep (fun _ => False) w w' := Keep.of_below h (fun i hi hb => by omega)
theorem spaces_any {B : Nat} {w : World} {pb : Nat} {v : PolV} {P : Policy} {W : Int → Int} {L : List Wr} (h : LookAt B w pb v P W L) :
 Calls Tryz.prog 95 #[.pointer (some ⟨pb, 0, none⟩)] w fun e w' => ∃ u vals, e = .returned u ∧ w'.ownsRow w.heap.size 43 1 u vals.length vals ∧ SpV B w vals P.spaces ∧ Below w.heap.size w w' := by
 obtain ⟨i0, hi, hz0, hz1, hz2⟩ := info_parts Tryz.info43
 obtain ⟨z, hz⟩ : ∃ z, z = w.heap.size := ⟨_, rfl⟩
 have HZ := Lib.hid hz
 have hp0 : w.cell? ⟨pb, 5, none⟩ = some v.subjects := h.cell rfl
 obtain ⟨A0, c0, hv0, _, hn0, hl0⟩ := h.pol.subjects
 rw [hv0] at hp0
 obtain ⟨A1, c1, hv1, _, hn1, hl1⟩ := h.pol.devices
 have HV1 := Lib.hid hv1
 unfold top at hn0 hn1
 have hlt := h.lt
 have hBp := h.base
 clear hv0 hv1 hz
 go_enter Tryz.func95, Tryz.ntmps95
 go_wp2
 go_loopw [3, 14] (fun u i wr => ∃ (n : Nat) (vals : List Value), n ≤ P.subjects.length ∧ i = .int .i64 n ∧ wr.ownsRow z 43 1 u vals.length vals ∧ SpV B w vals ((P.subjects.take n).map Subject.maps) ∧ Below z w wr) (fun _ i _ => P.subjects.length - (intOf i).toNat)
 case atStart => exact ⟨0, [], Nat.zero_le _, rfl, World.ownsRow_nil _ _ _ _, ⟨rfl, fun i u l hu _ => by simp at hu⟩, Below.refl _ _⟩
 case round =>
 obtain ⟨n, vals, hn, rfl, hown, hsp, hbw⟩ := hrel
 by_cases hlt2 : n < P.subjects.length
 · obtain ⟨bl, off, rfl, hbl, hcs⟩ := hl0 (by omega)
   obtain ⟨x, hx⟩ : ∃ x, P.subjects[n]? = some x := ⟨_, List.getElem?_eq_getElem hlt2⟩
   have hwr := hcs n x hx
   obtain ⟨u1, u2, hc, hs1, ⟨Am2, cm2, rfl, _⟩, _⟩ := hwr
   have hs1' := hs1
   obtain ⟨Am, cm, rfl, _⟩ := hs1
   have hc := hc.below hbw (by have := HZ.out; omega)
   have q0 := hc.c0
   have q1 := hc 1 _ rfl
   have q2 := hc 2 _ rfl
   have q3 := hc 3 _ rfl
   have q4 := hc 4 _ rfl
   have q5 := hc 5 _ rfl
   have hsz := hbw.size
   have hblr : bl < wr.heap.size := by have := HZ.out; omega
   have hzr : z ≤ wr.heap.size := by have := HZ.out; omega
   have hvl : vals.length = n := by rw [hsp.1]; simp; omega
   have HX := Lib.hid hx
   have HSP := Lib.hid hsp
   have HS1 := Lib.hid hs1'
   have HVL := Lib.hid hvl
   have hvl2 : vals.length ≤ 2097152 := by omega
   clear hx hc hsp hs1' hvl hcs
   go_wp2_with (at_builtin; refine wpList_append_lies _ rfl _ _ 164 rfl z 43 i0 (.slice none 0 0) 1 24 Tryz.underlying164 hi hz0 hz1 hz2 rfl (by omega) _ vals.length vals rfl ((hown.alloc _).alloc _) ⟨wr.heap.size + 1, 0, none⟩ 1 1 [.slice Am x.maps.length cm] rfl rfl ?c1 (by simp [Value.oneCell']) (by omega) (by unfold maxLen; omega) (by omega) ?c2 (wr.heap.size + 2) (by simp) ?_)
   case c1 => have := cell_one_new (wr.alloc (.cells #[.int .i64 x.pos, .string x.name, .int .u64 x.cpu, .bool x.stopped, .slice Am x.maps.length cm, .slice Am2 x.rules.length cm2] 52)) (.slice Am x.maps.length cm) 43; simpa using this
   case c2 => simp; omega
   intro g cap w1 hown1 hgrow hat hlt3
   have hb1 : Below z w w1 := (((hbw.alloc hzr _).alloc (by simp; omega) _)).trans ((Keep.of_grown hgrow (S := fun k => z ≤ k) (fun k e => (hown.lt k e).1)).below (by simp; omega) (fun i hi e => by omega))
   go_wp2
   go_roundw
   case rel =>
    refine ⟨n + 1, vals ++ [.slice Am x.maps.length cm], by omega, by go_num, by rw [List.length_append]; exact hown1, ?_, hb1⟩
    rw [take_at HX.out, List.map_append]
    exact HSP.out.snoc HS1.out
   case measure => simp [intOf]; omega
 obtain rfl : n = P.subjects.length := by omega
 rw [List.take_length] at hsp
 obtain ⟨w1, hw1⟩ : ∃ u : World, u = wr := ⟨_, rfl⟩
 rw [← hw1] at hbw hown ⊢
 clear hw1 wr hlt2 hn hl0 hp0
 have hp1 : w1.cell? ⟨pb, 3, none⟩ = some v.devices := (hbw.cell (p := ⟨pb, 3, none⟩) (by have := HZ.out; show pb < z; omega)).trans (h.cell rfl)
 rw [HV1.out] at hp1
 have HSP := Lib.hid hsp
 have HOWN := Lib.hid hown
 have HBW := Lib.hid hbw
 have hvl : vals.length ≤ 2097152 := by rw [hsp.1]; simp; omega
 clear hsp hown hbw
 go_wp2
 clear hp1
 go_loopw [3, 30] (fun u i wr => ∃ (n : Nat) (vals : List Value), n ≤ P.devices.length ∧ i = .int .i64 n ∧ wr.ownsRow z 43 1 u vals.length vals ∧ SpV B w vals (P.subjects.map Subject.maps ++ (P.devices.take n).map Device.maps) ∧ Below z w wr) (fun _ i _ => P.devices.length - (intOf i).toNat)
 case atStart => exact ⟨0, vals, Nat.zero_le _, rfl, HOWN.out, by simpa using HSP.out, HBW.out⟩
 case round =>
 clear HSP HOWN HBW hvl
 obtain ⟨n, vals, hn, rfl, hown, hsp, hbw⟩ := hrel
 by_cases hlt2 : n < P.devices.length
 · obtain ⟨bl, off, rfl, hbl, hcs⟩ := hl1 (by omega)
   obtain ⟨x, hx⟩ : ∃ x, P.devices[n]? = some x := ⟨_, List.getElem?_eq_getElem hlt2⟩
   have hwr := hcs n x hx
   obtain ⟨u1, hc, hs1, _⟩ := hwr
   have hs1' := hs1
   obtain ⟨Am, cm, rfl, _⟩ := hs1
   have hc := hc.below hbw (by have := HZ.out; omega)
   have q0 := hc.c0
   have q1 := hc 1 _ rfl
   have q2 := hc 2 _ rfl
   have q3 := hc 3 _ rfl
   have q4 := hc 4 _ rfl
   have hsz := hbw.size
   have hblr : bl < wr.heap.size := by have := HZ.out; omega
   have hzr : z ≤ wr.heap.size := by have := HZ.out; omega
   have hvl : vals.length ≤ 4194304 := by rw [hsp.1]; simp; omega
   have HX := Lib.hid hx
   have HSP := Lib.hid hsp
   have HS1 := Lib.hid hs1'
   clear hx hc hsp hs1' hcs
   go_wp2_with (at_builtin; refine wpList_append_lies _ rfl _ _ 164 rfl z 43 i0 (.slice none 0 0) 1 24 Tryz.underlying164 hi hz0 hz1 hz2 rfl (by omega) _ vals.length vals rfl ((hown.alloc _).alloc _) ⟨wr.heap.size + 1, 0, none⟩ 1 1 [.slice Am x.maps.length cm] rfl rfl ?c1 (by simp [Value.oneCell']) (by omega) (by unfold maxLen; omega) (by omega) ?c2 (wr.heap.size + 2) (by simp) ?_)
   case c1 => have := cell_one_new (wr.alloc (.cells #[.int .i64 x.pos, .string x.name, .int .u64 x.at_, .int .u64 x.size, .slice Am x.maps.length cm] 45)) (.slice Am x.maps.length cm) 43; simpa using this
   case c2 => simp; omega
   intro g cap w1 hown1 hgrow hat hlt3
   have hb1 : Below z w w1 := (((hbw.alloc hzr _).alloc (by simp; omega) _)).trans ((Keep.of_grown hgrow (S := fun k => z ≤ k) (fun k e => (hown.lt k e).1)).below (by simp; omega) (fun i hi e => by omega))
   go_wp2
   go_roundw
   case rel =>
    refine ⟨n + 1, vals ++ [.slice Am x.maps.length cm], by omega, by go_num, by rw [List.length_append]; exact hown1, ?_, hb1⟩
    rw [take_at HX.out, List.map_append, ← List.append_assoc]
    exact HSP.out.snoc HS1.out
   case measure => simp [intOf]; omega
 · obtain rfl : n = P.devices.length := by omega
   rw [List.take_length] at hsp
   have HSP := Lib.hid hsp
   have HOWN := Lib.hid hown
   clear hsp hown
   go_wp2
   go_ret
   rw [← HZ.out]
   exact ⟨_, vals, rfl, HOWN.out, HSP.out, hbw⟩
theorem own_slice {w : World} {z : Nat} {e : TypeId} {u : Value} {vals : List Value} (h : w.ownsRow z e 1 u vals.length vals) :
 ∃ A c, u = .slice A vals.length c ∧ (0 < vals.length → ∃ g, A = some ⟨g, 0, none⟩ ∧ z ≤ g ∧ g < w.heap.size ∧ ∀ (i : Nat) (x : Value), vals[i]? = some x → w.cell? ⟨g, i, none⟩ = some x) := by
 rcases Nat.eq_zero_or_pos vals.length with h0 | h0
 · rcases h.2 with ⟨e1, e2⟩ | ⟨g, cap, cur, e1, _⟩
   · exact ⟨none, 0, by rw [e1, e2], fun h => by omega⟩
   · exact ⟨_, _, e1, fun h => by omega⟩
 · obtain ⟨g, cap, hv, hB, hlt⟩ := h.form h0
   subst hv
   refine ⟨_, _, rfl, fun _ => ⟨g, rfl, hB, hlt, fun i x hx => ?_⟩⟩
   have := h.cells (g := g) rfl i x hx
   have hadd : ∀ j, (⟨g, 0, none⟩ : Addr).add j = ⟨g, j, none⟩ := fun j => by unfold Addr.add; split <;> simp_all
   rw [hadd] at this
   exact this
def countsBase (P : Policy) : List Wr :=
 most Ck.Ram.pos 8 P.rams ++ most Ck.Device.pos 32 P.devices ++ most Ck.Region.pos 256 P.regions ++ most Ck.Subject.pos 64 P.subjects ++ most Ck.Channel.pos 256 P.channels ++
 most Ck.Irq.pos 64 P.irqs ++ most Ck.Queue.pos 64 P.queues ++ most Ck.Ban.pos 256 P.forbids ++ most Ck.Plan.pos 16 P.plans
theorem counts_any {B : Nat} {w : World} {pb : Nat} {v : PolV} {P : Policy} (h0 : LookAt B w pb v P why2 []) :
 Calls Tryz.prog 50 #[.pointer (some ⟨pb, 0, none⟩)] w fun e w' => e = .returned (.tuple #[]) ∧ LookAt B w' pb v P why2 (countsW P) ∧ Keep (fun k => k = pb) w w' := by
 have K0 : Hid (Keep (fun k => k = pb) w w) := Keep.refl _ _
 have hq0 : w.cell? ⟨pb, 2, none⟩ = some v.rams := h0.cell rfl
 go_enter Tryz.func50, Tryz.ntmps50
 go_wp2_with fail
 refine (mostRam h0 h0.pol.rams 8 (by omega)).mono ?_
 rintro e w1 ⟨rfl, h1, hk⟩
 have K1 : Hid (Keep (fun k => k = pb) w w1) := K0.out.trans hk (fun _ _ e => e)
 clear hk hq0 h0 K0
 have hq1 : w1.cell? ⟨pb, 3, none⟩ = some v.devices := h1.cell rfl
 go_wp2_with fail
 refine (mostDevice h1 h1.pol.devices 32 (by omega)).mono ?_
 rintro e w2 ⟨rfl, h2, hk⟩
 have K2 : Hid (Keep (fun k => k = pb) w w2) := K1.out.trans hk (fun _ _ e => e)
 clear hk hq1 h1 K1
 have hq2 : w2.cell? ⟨pb, 4, none⟩ = some v.regions := h2.cell rfl
 go_wp2_with fail
 refine (mostRegion h2 h2.pol.regions 256 (by omega)).mono ?_
 rintro e w3 ⟨rfl, h3, hk⟩
 have K3 : Hid (Keep (fun k => k = pb) w w3) := K2.out.trans hk (fun _ _ e => e)
 clear hk hq2 h2 K2
 have hq3 : w3.cell? ⟨pb, 5, none⟩ = some v.subjects := h3.cell rfl
 go_wp2_with fail
 refine (mostSubject h3 h3.pol.subjects 64 (by omega)).mono ?_
 rintro e w4 ⟨rfl, h4, hk⟩
 have K4 : Hid (Keep (fun k => k = pb) w w4) := K3.out.trans hk (fun _ _ e => e)
 clear hk hq3 h3 K3
 have hq4 : w4.cell? ⟨pb, 6, none⟩ = some v.channels := h4.cell rfl
 go_wp2_with fail
 refine (mostChannel h4 h4.pol.channels 256 (by omega)).mono ?_
 rintro e w5 ⟨rfl, h5, hk⟩
 have K5 : Hid (Keep (fun k => k = pb) w w5) := K4.out.trans hk (fun _ _ e => e)
 clear hk hq4 h4 K4
 have hq5 : w5.cell? ⟨pb, 7, none⟩ = some v.irqs := h5.cell rfl
 go_wp2_with fail
 refine (mostIrq h5 h5.pol.irqs 64 (by omega)).mono ?_
 rintro e w6 ⟨rfl, h6, hk⟩
 have K6 : Hid (Keep (fun k => k = pb) w w6) := K5.out.trans hk (fun _ _ e => e)
 clear hk hq5 h5 K5
 have hq6 : w6.cell? ⟨pb, 8, none⟩ = some v.queues := h6.cell rfl
 go_wp2_with fail
 refine (mostQueue h6 h6.pol.queues 64 (by omega)).mono ?_
 rintro e w7 ⟨rfl, h7, hk⟩
 have K7 : Hid (Keep (fun k => k = pb) w w7) := K6.out.trans hk (fun _ _ e => e)
 clear hk hq6 h6 K6
 have hq7 : w7.cell? ⟨pb, 13, none⟩ = some v.forbids := h7.cell rfl
 go_wp2_with fail
 refine (mostBan h7 h7.pol.forbids 256 (by omega)).mono ?_
 rintro e w8 ⟨rfl, h8, hk⟩
 have K8 : Hid (Keep (fun k => k = pb) w w8) := K7.out.trans hk (fun _ _ e => e)
 clear hk hq7 h7 K7
 have hq8 : w8.cell? ⟨pb, 9, none⟩ = some v.plans := h8.cell rfl
 go_wp2_with fail
 refine (mostPlan h8 h8.pol.plans 16 (by omega)).mono ?_
 rintro e w9 ⟨rfl, h9, hk⟩
 have K9 : Hid (Keep (fun k => k = pb) w w9) := K8.out.trans hk (fun _ _ e => e)
 clear hk hq8 h8 K8
 have hc9 : LookAt B w9 pb v P why2 (countsBase P) := h9.congr fun p => by
  simp only [countsBase, List.mem_append, List.mem_nil_iff, or_false]
  constructor
  · rintro (h | h | h | h | h | h | h | h | h) <;> simp [h]
  · rintro ((((((((h | h) | h) | h) | h) | h) | h) | h) | h) <;> simp [h]
 clear h9
 go_wp2_with fail
 refine (spaces_any hc9).mono ?_
 rintro e w10 ⟨u, vals, rfl, hown, hsp, hb⟩
 have hk0 := below_keepF hb rfl
 have h10 := hc9.new hk0
 have K10 : Hid (Keep (fun k => k = pb) w w10) := K9.out.trans hk0 (fun _ _ e => e.elim)
 obtain ⟨A, c, rfl, hcell⟩ := own_slice hown
 have hlt9 := hc9.lt
 have hvl : vals.length ≤ 4194304 := by
  rw [hsp.1]
  obtain ⟨_, _, _, _, b1, _⟩ := hc9.pol.subjects
  obtain ⟨_, _, _, _, b2, _⟩ := hc9.pol.devices
  unfold top at b1 b2
  simp [Policy.spaces]; omega
 have HSP := Lib.hid hsp
 have hBp := hc9.base
 have HB0 := Lib.hid hk0
 clear hk0 hb hown hsp K9 hc9
 go_wp2
 go_loopw [70] (fun i wr => ∃ n : Nat, n ≤ vals.length ∧ i = .int .i64 n ∧ LookAt B wr pb v P why2 ((P.spaces.take n).flatMap (most Ck.Map.pos 64) ++ countsBase P) ∧ Keep (fun k => k = pb) w10 wr) (fun i _ => vals.length - (intOf i).toNat)
 case atStart => exact ⟨0, Nat.zero_le _, rfl, by simpa using h10, Keep.refl _ _⟩
 case round =>
 obtain ⟨n, hn, rfl, hL, hk⟩ := hrel
 by_cases hlt : n < vals.length
 · obtain ⟨g, rfl, hg1, hg2, hgc⟩ := hcell (by omega)
   obtain ⟨x, hx⟩ : ∃ x, vals[n]? = some x := ⟨_, List.getElem?_eq_getElem hlt⟩
   obtain ⟨l, hl⟩ : ∃ l, P.spaces[n]? = some l := ⟨_, List.getElem?_eq_getElem (by rw [← HSP.out.1]; exact hlt)⟩
   have hs := (HSP.out.2 n x l hx hl).below (flat_stays _ _ _) (((HB0.out.mono (T := fun k => k = pb) fun _ _ h => h.elim).trans hk (fun _ _ e => e)).below (B := B) (by omega) (fun i hi e => by omega))
   have hgl : g < wr.heap.size := by have := hk.size; omega
   have q0 : wr.cell? ⟨g, n, none⟩ = some x := (hk.cell (p := ⟨g, n, none⟩) hg2 (by show ¬ g = pb; omega)).trans (hgc n x hx)
   obtain ⟨Ax, cx, rfl, hsr⟩ := hs
   have HX := Lib.hid hl
   have HK := Lib.hid hk
   have HS : Hid (SliceAt B 5 MapAt wr (.slice Ax l.length cx) l) := ⟨Ax, cx, rfl, hsr⟩
   clear hx hl hk hsr hcell hgc
   go_wp2_with fail
   refine (mostMap hL HS.out 64 (by omega)).mono ?_
   rintro e w11 ⟨rfl, hL2, hk2⟩
   have HL2 := Lib.hid hL2
   have HK2 := Lib.hid hk2
   clear hL2 hk2 hL
   go_wp2
   go_roundw
   case rel =>
    refine ⟨n + 1, by omega, by go_num, HL2.out.congr fun p => ?_, HK.out.trans HK2.out (fun _ _ e => e)⟩
    rw [take_at HX.out]
    simp [or_assoc, or_comm, or_left_comm]
   case measure => simp [intOf]; omega
 · obtain rfl : n = vals.length := by omega
   have hL2 : LookAt B wr pb v P why2 (countsW P) := hL.congr fun p => by
    rw [HSP.out.1, List.take_length]
    simp only [countsW, countsBase, List.mem_append]
    exact ⟨fun h => h.symm, fun h => h.symm⟩
   have HL2 := Lib.hid hL2
   have HK := Lib.hid hk
   clear hL2 hL hk
   go_wp2
   go_end0
   exact ⟨rfl, HL2.out, K10.out.trans HK.out (fun _ _ e => e)⟩
end Go.Proofs.YtpblcjipmoblnaaGreatDoor
namespace Go.Proofs.YtpblcjipmoblnaaGreatDoor
open Go.RowKit Go.Extern.Stop Go.Stop Go.Extern
theorem Tryz.valueOf118 (t : Addr) (w : World) : (ReflectliteValue.unpack (.iface 118 (.pointer (some t)))).run Tryz.prog w
 = .ok (.agg #[.pointer (some ⟨13, 118, none⟩), .pointer (some ⟨w.heap.size, 0, none⟩), .int .u64 150]) (w.alloc (.cells #[.pointer (some t)] 118)) := by kernel_rfl
theorem Tryz.type118 (a : Addr) (w : World) : (ReflectliteValue.methodAny (ReflectliteValue.valueError "reflectlite.Value.Type" 0) (fun t _ _ _ => ReflectliteType.toType t) #[.agg #[.pointer (some ⟨13, 118, none⟩), .pointer (some a), .int .u64 150]]).run Tryz.prog w
 = .ok (.iface 230 (.agg #[.pointer (some ⟨13, 118, none⟩)])) w := by kernel_rfl
theorem Tryz.kind118 (w : World) : ((ReflectliteType.abiMethod fun t => (fun a : Nat => Value.int IntKind.u8 (a : Int)) <$> Rtype.kind t) #[.pointer (some ⟨13, 118, none⟩)]).run Tryz.prog w = .ok (.int .u8 22) w := by kernel_rfl
theorem Tryz.kind72 (w : World) : ((ReflectliteType.abiMethod fun t => (fun a : Nat => Value.int IntKind.u8 (a : Int)) <$> Rtype.kind t) #[.pointer (some ⟨13, 72, none⟩)]).run Tryz.prog w = .ok (.int .u8 2) w := by kernel_rfl
theorem Tryz.parts118 (a : Addr) (w : World) : (ReflectliteValue.parts (.agg #[.pointer (some ⟨13, 118, none⟩), .pointer (some a), .int .u64 150])).run Tryz.prog w = .ok (some (118, a, 150)) w := by kernel_rfl
theorem Tryz.isNil118 (a p : Addr) (W : World) (ha : W.cell? a = some (.pointer (some p))) :
 (ReflectliteValue.method (ReflectliteValue.valueError "reflectlite.Value.IsNil" 0) ReflectliteValue.isNil #[.agg #[.pointer (some ⟨13, 118, none⟩), .pointer (some a), .int .u64 150]]).run Tryz.prog W = .ok (.bool false) W := by
 rw [rlm]
 simp only [Sem.run_bind, Tryz.parts118, Result.andThen]
 simp [ReflectliteValue.isNil, loadVar, isAgg, underlying, Tryz.underlying118, ha, Result.andThen]
theorem Tryz.elem118 (w : World) : (ReflectliteType.method ReflectliteType.elem #[.agg #[.pointer (some ⟨13, 118, none⟩)]]).run Tryz.prog w = .ok (.iface 230 (.agg #[.pointer (some ⟨13, 72, none⟩)])) w := by kernel_rfl
theorem Tryz.implements72 (w : World) : (ReflectliteType.relation "Implements" ReflectliteType.implements_ #[.agg #[.pointer (some ⟨13, 72, none⟩)], .iface 230 (.agg #[.pointer (some ⟨13, 111, none⟩)])]).run Tryz.prog w = .ok (.bool true) w := by kernel_rfl
theorem Tryz.typeOf72 (v : Value) (w : World) : (ReflectliteType.typeOf #[.iface 72 v]).run Tryz.prog w = .ok (.iface 230 (.agg #[.pointer (some ⟨13, 72, none⟩)])) w := by kernel_rfl
theorem Tryz.assignable115_72 (w : World) : (ReflectliteType.relation "AssignableTo" ReflectliteType.assignableTo #[.agg #[.pointer (some ⟨13, 115, none⟩)], .iface 230 (.agg #[.pointer (some ⟨13, 72, none⟩)])]).run Tryz.prog w = .ok (.bool false) w := by kernel_rfl
theorem Tryz.assignable72 (w : World) : (ReflectliteType.relation "AssignableTo" ReflectliteType.assignableTo #[.agg #[.pointer (some ⟨13, 72, none⟩)], .iface 230 (.agg #[.pointer (some ⟨13, 72, none⟩)])]).run Tryz.prog w = .ok (.bool true) w := by kernel_rfl
theorem Tryz.valueOf72 (e : Int) (w : World) : (ReflectliteValue.unpack (.iface 72 (.int .i64 e))).run Tryz.prog w
 = .ok (.agg #[.pointer (some ⟨13, 72, none⟩), .pointer (some ⟨w.heap.size, 0, none⟩), .int .u64 130]) (w.alloc (.cells #[.int .i64 e] 72)) := by kernel_rfl
theorem Tryz.elemOf118 (w : World) : (Rtype.elem? 118).run Tryz.prog w = .ok (some 72) w := by kernel_rfl
theorem Tryz.mk72 (p : Addr) (w : World) : (ReflectliteValue.mk 72 p ReflectliteValue.flagAddr).run Tryz.prog w = .ok (.agg #[.pointer (some ⟨13, 72, none⟩), .pointer (some p), .int .u64 386]) w := by kernel_rfl
theorem Tryz.elemV118 (a p : Addr) (W : World) (ha : W.cell? a = some (.pointer (some p))) :
 (ReflectliteValue.method (ReflectliteValue.valueError "reflectlite.Value.Elem" 0) ReflectliteValue.elem #[.agg #[.pointer (some ⟨13, 118, none⟩), .pointer (some a), .int .u64 150]]).run Tryz.prog W
   = .ok (.agg #[.pointer (some ⟨13, 72, none⟩), .pointer (some p), .int .u64 386]) W := by
 rw [rlm]
 simp only [Sem.run_bind, Tryz.parts118, Result.andThen]
 simp [ReflectliteValue.elem, loadVar, isAgg, underlying, Tryz.underlying118, ha, Result.andThen, Tryz.elemOf118, Tryz.mk72]
theorem Tryz.parts72a (a : Addr) (w : World) : (ReflectliteValue.parts (.agg #[.pointer (some ⟨13, 72, none⟩), .pointer (some a), .int .u64 386])).run Tryz.prog w = .ok (some (72, a, 386)) w := by kernel_rfl
theorem Tryz.parts72 (a : Addr) (w : World) : (ReflectliteValue.parts (.agg #[.pointer (some ⟨13, 72, none⟩), .pointer (some a), .int .u64 130])).run Tryz.prog w = .ok (some (72, a, 130)) w := by kernel_rfl
theorem Tryz.direct72 (w : World) : (Rtype.directlyAssignable 72 72).run Tryz.prog w = .ok true w := by kernel_rfl
theorem Tryz.set72 (ta b : Addr) (e : Int) (old : Value) (W : World) (hb : W.cell? b = some (.int .i64 e)) (ht : W.cell? ta = some old) (hf : W.frozen? ta = false) :
 (ReflectliteValue.set #[.agg #[.pointer (some ⟨13, 72, none⟩), .pointer (some ta), .int .u64 386], .agg #[.pointer (some ⟨13, 72, none⟩), .pointer (some b), .int .u64 130]]).run Tryz.prog W
   = .ok (.tuple #[]) (W.setCell ta (.int .i64 e)) := by
 rw [rls]
 simp only [Sem.run_bind, Tryz.parts72a, Tryz.parts72, Result.andThen]
 simp [ReflectliteValue.flagAddr, loadVar, isAgg, underlying, Tryz.underlying72, hb, Result.andThen, Tryz.direct72, storeVar, Value.cells, storeCells, Addr.add]
 rw [run_store Tryz.prog W ta _ _ (by rfl)]
 simp [ht, hf]
theorem Tryz.noAs115 (v : Value) (xT : TypeId) (w : World) : (Instr.typeAssert (.iface 115 v) xT 235 true).run Tryz.prog w = .ok (.tuple #[.nilIface, .bool false]) w := run_typeAssert_lacksB Tryz.underlying235 (by kernel_rfl) (by kernel_rfl) v xT w
theorem Tryz.hasUnwrap115 (v : Value) (xT : TypeId) (w : World) : (Instr.typeAssert (.iface 115 v) xT 238 true).run Tryz.prog w = .ok (.tuple #[.iface 115 v, .bool true]) w := run_typeAssert_hasB Tryz.underlying238 (by kernel_rfl) v xT w
theorem Tryz.methodUnwrap (v : Value) (w : World) : (Go.method 498 115 v "Unwrap").run Tryz.prog w = .ok (242, v) w := by kernel_rfl
theorem unwrap_any (b : Nat) (why : Value) (w : World) (h : w.cell? ⟨b, 2, none⟩ = some why) : Calls Tryz.prog 242 #[.pointer (some ⟨b, 0, none⟩)] w fun e w' => e = .returned why ∧ w = w' := by
 go_enter Tryz.func242, Tryz.ntmps242
 go_wp2
 go_ret
 exact ⟨rfl, rfl⟩
theorem as_errno0 (eb : Nat) (t : Addr) (x : Int) (old : Value) (w : World) (hg : ErrT w) (hw : w.cell? ⟨eb, 2, none⟩ = some (.iface 72 (.int .i64 x))) (ht0 : w.cell? t = some old) (hf0 : w.frozen? t = false) :
 Calls Tryz.prog 57 #[.iface 115 (.pointer (some ⟨eb, 0, none⟩)), .iface 118 (.pointer (some t))] w fun ev w' => ev = .returned (.bool true) ∧ w' = ((((w.alloc (.cells #[.pointer (some t)] 118)).alloc (.cells #[.pointer (some ⟨13, 118, none⟩), .pointer (some ⟨w.heap.size, 0, none⟩), .int .u64 150] 192)).alloc (.cells #[.pointer (some ⟨13, 118, none⟩), .pointer (some ⟨w.heap.size, 0, none⟩), .int .u64 150] 192)).alloc (.cells #[.int .i64 x] 72)).setCell t (.int .i64 x) := by
 unfold ErrT at hg
 have h6 := @run_callFunc_extern Tryz.prog 106 _ (fun args => ReflectliteValue.unpack (args.getD 0 (.tuple #[]))) Tryz.func106 (by kernel_rfl) (by kernel_rfl) (by kernel_rfl) (by kernel_rfl)
 have h7 := @run_callFunc_extern Tryz.prog 107 _ (ReflectliteValue.methodAny (ReflectliteValue.valueError "reflectlite.Value.Type" 0) (fun t _ _ _ => ReflectliteType.toType t)) Tryz.func107 (by kernel_rfl) (by kernel_rfl) (by kernel_rfl) (by kernel_rfl)
 have h8 := @run_callFunc_extern Tryz.prog 108 _ (ReflectliteValue.method (ReflectliteValue.valueError "reflectlite.Value.IsNil" 0) ReflectliteValue.isNil) Tryz.func108 (by kernel_rfl) (by kernel_rfl) (by kernel_rfl) (by kernel_rfl)
 have h27 := @run_callFunc_extern Tryz.prog 236 _ (ReflectliteType.abiMethod fun t => do pure (.int .u8 (← Rtype.kind t))) Tryz.func236 (by kernel_rfl) (by kernel_rfl) (by kernel_rfl) (by kernel_rfl)
 have h37 := @run_callFunc_extern Tryz.prog 255 _ (ReflectliteType.method ReflectliteType.elem) Tryz.func255 (by kernel_rfl) (by kernel_rfl) (by kernel_rfl) (by kernel_rfl)
 have h38 := @run_callFunc_extern Tryz.prog 256 _ (ReflectliteType.relation "Implements" ReflectliteType.implements_) Tryz.func256 (by kernel_rfl) (by kernel_rfl) (by kernel_rfl) (by kernel_rfl)
 have h10 := @run_callFunc_extern Tryz.prog 131 _ ReflectliteType.typeOf Tryz.func131 (by kernel_rfl) (by kernel_rfl) (by kernel_rfl) (by kernel_rfl)
 have h35 := @run_callFunc_extern Tryz.prog 253 _ (ReflectliteType.relation "AssignableTo" ReflectliteType.assignableTo) Tryz.func253 (by kernel_rfl) (by kernel_rfl) (by kernel_rfl) (by kernel_rfl)
 have h11 := @run_callFunc_extern Tryz.prog 132 _ (ReflectliteValue.method (ReflectliteValue.valueError "reflectlite.Value.Elem" 0) ReflectliteValue.elem) Tryz.func132 (by kernel_rfl) (by kernel_rfl) (by kernel_rfl) (by kernel_rfl)
 have h12 := @run_callFunc_extern Tryz.prog 133 _ ReflectliteValue.set Tryz.func133 (by kernel_rfl) (by kernel_rfl) (by kernel_rfl) (by kernel_rfl)
 have tO := Tryz.typeOf115
 have tO2 := Tryz.typeOf72
 have mA := Tryz.methodAssignableTo
 have a25 := Tryz.assignable115_72
 have a26 := Tryz.assignable72
 have v25 := Tryz.valueOf72
 have f6 := Tryz.valueOf118
 have f7 := Tryz.type118
 have mK := Tryz.methodKind
 have mE := Tryz.methodElem
 have mI := Tryz.methodImplements
 have k27 := Tryz.kind118
 have k25 := Tryz.kind72
 have e27 := Tryz.elem118
 have i25 := Tryz.implements72
 have nA := Tryz.noAs115
 have uA := Tryz.hasUnwrap115
 have mU := Tryz.methodUnwrap
 have n8 := Tryz.isNil118 ⟨w.heap.size, 0, none⟩ t ((w.alloc (.cells #[.pointer (some t)] 118)).alloc (.cells #[.pointer (some ⟨13, 118, none⟩), .pointer (some ⟨w.heap.size, 0, none⟩), .int .u64 150] 192)) (by simp)
 have hlt : 0 < w.heap.size := by
  rcases Nat.eq_zero_or_pos w.heap.size with h0 | h
  · simp [World.cell?, h0] at hg
  · exact h
 have hg2 : ((w.alloc (.cells #[.pointer (some t)] 118)).alloc (.cells #[.pointer (some ⟨13, 118, none⟩), .pointer (some ⟨w.heap.size, 0, none⟩), .int .u64 150] 192)).cell? ⟨0, 0, none⟩ = some (.iface 230 (.agg #[.pointer (some ⟨13, 111, none⟩)])) := by
  rw [World.cell?_alloc_lt _ _ ⟨0, 0, none⟩ (by simp), World.cell?_alloc_lt _ _ ⟨0, 0, none⟩ hlt]; exact hg
 have htl : t.block < w.heap.size := by
  rcases Nat.lt_or_ge t.block w.heap.size with h | h
  · exact h
  · simp [World.cell?, Array.getElem?_eq_none h] at ht0
 have hel : eb < w.heap.size := World.block_lt_of_cell? w ⟨eb, 2, none⟩ hw
 have el := Tryz.elemV118 ⟨w.heap.size, 0, none⟩ t (((w.alloc (.cells #[.pointer (some t)] 118)).alloc (.cells #[.pointer (some ⟨13, 118, none⟩), .pointer (some ⟨w.heap.size, 0, none⟩), .int .u64 150] 192)).alloc (.cells #[.pointer (some ⟨13, 118, none⟩), .pointer (some ⟨w.heap.size, 0, none⟩), .int .u64 150] 192)) (by rw [World.cell?_alloc_lt _ _ ⟨w.heap.size, 0, none⟩ (by simp; omega)]; simp)
 have hw3 : (((w.alloc (.cells #[.pointer (some t)] 118)).alloc (.cells #[.pointer (some ⟨13, 118, none⟩), .pointer (some ⟨w.heap.size, 0, none⟩), .int .u64 150] 192)).alloc (.cells #[.pointer (some ⟨13, 118, none⟩), .pointer (some ⟨w.heap.size, 0, none⟩), .int .u64 150] 192)).cell? ⟨eb, 2, none⟩ = some (.iface 72 (.int .i64 x)) := by
  rw [World.cell?_alloc_lt _ _ ⟨eb, 2, none⟩ (by simp; omega), World.cell?_alloc_lt _ _ ⟨eb, 2, none⟩ (by simp; omega), World.cell?_alloc_lt _ _ ⟨eb, 2, none⟩ hel]; exact hw
 have hun := unwrap_any eb _ _ hw3
 have st := Tryz.set72 t ⟨w.heap.size + 1 + 1 + 1, 0, none⟩ x old ((((w.alloc (.cells #[.pointer (some t)] 118)).alloc (.cells #[.pointer (some ⟨13, 118, none⟩), .pointer (some ⟨w.heap.size, 0, none⟩), .int .u64 150] 192)).alloc (.cells #[.pointer (some ⟨13, 118, none⟩), .pointer (some ⟨w.heap.size, 0, none⟩), .int .u64 150] 192)).alloc (.cells #[.int .i64 x] 72))
  (by rw [World.cell?_alloc_at _ _ _ _ (by simp)]; rfl)
  (by rw [World.cell?_alloc_lt _ _ t (by simp; omega), World.cell?_alloc_lt _ _ t (by simp; omega), World.cell?_alloc_lt _ _ t (by simp; omega), World.cell?_alloc_lt _ _ t htl]; exact ht0)
  (by rw [World.frozen?_alloc_old _ _ t (by simp; omega), World.frozen?_alloc_old _ _ t (by simp; omega), World.frozen?_alloc_old _ _ t (by simp; omega), World.frozen?_alloc_old _ _ t (Nat.ne_of_lt htl)]; exact hf0)
 have HUN := Lib.hid hun
 clear hun
 go_enter Tryz.func57, Tryz.ntmps57
 go_wp2
 refine wp_loop_rounds 2 ?_
 rw [rounds_succ]
 go_wp2_with (go_at_call 242; refine HUN.out.mono ?_; rintro e w' ⟨rfl, rfl⟩)
 rw [rounds_succ]
 go_wp2
 go_ret
 exact ⟨rfl, rfl⟩
theorem as_errno (eb tb : Nat) (x : Int) (w : World) (hg : ErrT w) (hw : w.cell? ⟨eb, 2, none⟩ = some (.iface 72 (.int .i64 x))) (ht : Var w tb 72 (.int .i64 0)) :
 Calls Tryz.prog 57 #[.iface 115 (.pointer (some ⟨eb, 0, none⟩)), .iface 118 (.pointer (some ⟨tb, 0, none⟩))] w fun ev w' => ev = .returned (.bool true) ∧ Var w' tb 72 (.int .i64 x) ∧ Keep (fun k => k = tb) w w' := by
 refine (as_errno0 eb ⟨tb, 0, none⟩ x _ w hg hw ht.cell ht.frozen).mono ?_
 rintro ev w' ⟨rfl, rfl⟩
 have hk : Keep (fun _ => False) w ((((w.alloc (.cells #[.pointer (some ⟨tb, 0, none⟩)] 118)).alloc (.cells #[.pointer (some ⟨13, 118, none⟩), .pointer (some ⟨w.heap.size, 0, none⟩), .int .u64 150] 192)).alloc (.cells #[.pointer (some ⟨13, 118, none⟩), .pointer (some ⟨w.heap.size, 0, none⟩), .int .u64 150] 192)).alloc (.cells #[.int .i64 x] 72)) := ((((Keep.refl _ w).alloc _).alloc _).alloc _).alloc _
 exact ⟨rfl, (ht.keep hk (fun h => h)).set_ _, (hk.mono (T := fun k => k = tb) fun _ _ h => h.elim).setCell (p := ⟨tb, 0, none⟩) (fun _ => rfl) _⟩
end Go.Proofs.YtpblcjipmoblnaaGreatDoor
namespace Go.Proofs.YtpblcjipmoblnaaGreatDoor
open Go.RowKit Go.IntWalk Ck
theorem below_any (a s b : Nat) (w : World) (ha : a < 18446744073709551616) (hs : s < 18446744073709551616) (hb : b < 18446744073709551616) :
 Calls Tryz.prog 98 #[.int .u64 a, .int .u64 s, .int .u64 b] w fun e w' => e = .returned (.bool (below a s b)) ∧ w = w' := by
 unfold below
 by_cases h1 : a ≤ b
 · have h2 : decide (a ≤ b) = true := by simpa using h1
   by_cases h3 : s ≤ b - a
   · have h3' : (s : Int) ≤ (b : Int) - a := by omega
     go_enter Tryz.func98, Tryz.ntmps98
     go_wp2
     go_ret
     exact ⟨by simp [h1, h3, h3'], rfl⟩
   · have h3' : ¬ (s : Int) ≤ (b : Int) - a := by omega
     go_enter Tryz.func98, Tryz.ntmps98
     go_wp2
     go_ret
     exact ⟨by simp [h1, h3, h3'], rfl⟩
 · have h2 : decide (a ≤ b) = false := by simpa using h1
   go_enter Tryz.func98, Tryz.ntmps98
   go_wp2
   go_ret
   exact ⟨by simp [h1], rfl⟩
theorem unit_any (b : Bool) (w : World) : Calls Tryz.prog 101 #[.bool b] w fun e w' => e = .returned (.int .u64 (unit b)) ∧ w = w' := by
 cases b
 · go_enter Tryz.func101, Tryz.ntmps101
   go_wp2
   go_ret
   exact ⟨rfl, rfl⟩
 · go_enter Tryz.func101, Tryz.ntmps101
   go_wp2
   go_ret
   exact ⟨rfl, rfl⟩
end Go.Proofs.YtpblcjipmoblnaaGreatDoor
