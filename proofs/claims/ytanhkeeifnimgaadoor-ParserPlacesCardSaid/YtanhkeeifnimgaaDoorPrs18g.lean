/- The walk of parser.rules. Conditions: none. -/
import Derived.Test.YtanhkeeifnimgaaDoorPrs18f
namespace Go.Proofs.YtanhkeeifnimgaaDoor
open Go Go.RowKit Go.Proofs

/-- nothing that was there has changed -/
def BW (w W : World) : Prop := Below w.heap.size w W
theorem BW.refl (w : World) : BW w w := Below.refl _ _
theorem BW.alloc {w W : World} (h : BW w W) (o : Obj) : BW w (W.alloc o) := Below.alloc h h.size o
theorem BW.and_then {a b c : World} (h : BW a b) (k : BW b c) : BW a c := Below.trans h (k.mono h.size)
theorem PV.bw {w W : World} {bp : Nat} {v : Value} {p : Part} (h : PV w bp v p) (k : BW w W) : PV W bp v p := h.below k
theorem BW.but {w W : World} (g : Nat) (h : BW w W) : But g w.heap.size w W := But.ofBelow h
/-- a slice of parts of the call's own -/
def OwnP (B : Nat) (w : World) (v : Value) (l : List Value) : Prop := w.ownsRow B 90 1 v l.length l
theorem infoP : (Tryd.prog.info? 90).map (fun i => (i.zero, i.size, i.bytes)) = some (some .nilFunc, 1, 8) := by kernel_rfl
theorem OwnP.lit3 (w : World) (a b c : Value) : OwnP w.heap.size (w.alloc (.cells #[a, b, c] 90)) (.slice (some ⟨w.heap.size, 0, none⟩) 3 3) [a, b, c] :=
  World.ownsRow_lit (e := 90) (size := 1) w #[a, b, c] 3 (Nat.le_refl _) (by decide) (by simp)
theorem OwnP.lit4 (w : World) (a b c d : Value) : OwnP w.heap.size (w.alloc (.cells #[a, b, c, d] 90)) (.slice (some ⟨w.heap.size, 0, none⟩) 4 4) [a, b, c, d] :=
  World.ownsRow_lit (e := 90) (size := 1) w #[a, b, c, d] 4 (Nat.le_refl _) (by decide) (by simp)
theorem append_parts {ops : Array Oper} {rest : List Oper} {o : Oper} {a : Act} {Q : Exit → Act → World → Prop} {w : World} (hgd : o.guard = none) (s x : Operand)
    (ho : o.op = .call { callee := .builtin .append, args := #[s, x], argTypes := #[83, 83] })
    (base : Nat) (v : Value) (l : List Value) (hs : a.eval s = v) (hown : OwnP base w v l)
    (B : Nat) (A : Option Addr) (c : Nat) (m : List Value) (hx : a.eval x = .slice A m.length c) (hr : Reads w B 1 A m.length m) (h1 : ∀ u ∈ m, u.oneCell' = true)
    (hlen : l.length + m.length ≤ 1099511627776) (hbase : base ≤ w.heap.size)
    (h : ∀ v' w', OwnP base w' v' (l ++ m) → w.grownBy w' v.ownBlock → wpList Tryd.prog ops Q rest (a.put o.dst v') w') : wpList Tryd.prog ops Q (o :: rest) a w := by
  obtain ⟨i0, hi, hz0, hz1, hz2⟩ := info_parts infoP
  refine wpList_plain hgd fun _ hK => wp_append_any w s x 83 ho base 90 i0 _ 1 8 Tryd.underlying83 hi hz0 hz1 hz2 rfl (by omega) v l.length l hs hown B A m.length c m hx hr h1 (by unfold maxLen; omega) (by omega) hbase
    fun v' w' h2 h3 _ => hK _ _ (h v' w' ?_ h3)
  unfold OwnP; rw [List.length_append]; exact h2
/-- what an append to a new row answers -/
theorem own_row {z w' : World} {lit : Array Value} {T : TypeId} {v' : Value} {l : List Value} {c : Nat} {bp : Nat} (hbp : bp < z.heap.size) (h : OwnP z.heap.size w' v' l) (hg : (z.alloc (.cells lit T)).grownBy w' (Value.slice (some ⟨z.heap.size, 0, none⟩) c c).ownBlock) :
    BW z w' ∧ ∃ A c', v' = .slice A l.length c' ∧ Reads w' w'.heap.size 1 A l.length l ∧ Off bp A := by
  refine ⟨Below.ofGrown ((Below.refl _ _).alloc (Nat.le_refl _) _) hg (by simp) (fun k hk => ?_), ?_⟩
  · have e : some z.heap.size = some k := hk
    injection e with e
    omega
  · have hlt := World.ownsRow.lt h
    have h2 := h
    rcases h2.2 with ⟨rfl, h0⟩ | ⟨g, cap, cur, rfl, _⟩
    · have : l = [] := List.eq_nil_of_length_eq_zero h0
      subst this
      exact ⟨none, 0, rfl, Reads.none_, fun ad e => by cases e⟩
    · refine ⟨_, _, rfl, Reads.of_own h, fun ad e => ?_⟩
      injection e with e
      subst e
      have := (hlt g rfl).1
      simp; omega
theorem RowV.of {w : World} {bp : Nat} {V : Value} {l : List Value} {ps : List Part} (hl : l.length = ps.length) (h : ∃ A c', V = .slice A l.length c' ∧ Reads w w.heap.size 1 A l.length l ∧ Off bp A) (hp : PVs w bp l ps) : RowV w bp V ps := by
  obtain ⟨A, c, rfl, h1, h2⟩ := h
  exact ⟨A, c, l, by rw [hl], by rw [← hl]; exact h1, h2, hp⟩
theorem blk_newEq {w : World} {b : Nat} {T : TypeId} {cs : Array Value} (h : b = w.heap.size) : Blk (w.alloc (.cells cs T)) b T cs := by subst h; exact Blk.new w T cs
theorem Blk.bw {w z : World} {b : Nat} {T : TypeId} {cs : Array Value} (h : Blk w b T cs) (k : BW w z) : Blk z b T cs := Blk.below h k (Blk.lt h)
theorem RowV.blk {F : World} {bp b n : Nat} {T : TypeId} {vs : Array Value} {ps : List Part} (h : Blk F b T vs) (hn : vs.size = n) (hps : ps.length = n) (hne : b ≠ bp) (hp : PVs F bp vs.toList ps) : RowV F bp (.slice (some ⟨b, 0, none⟩) n n) ps := by
  subst hps
  refine ⟨_, _, vs.toList, rfl, ⟨by simpa using hn, fun _ => ⟨_, rfl, Blk.lt h, fun j u hu => ?_⟩⟩, fun ad e => ?_, hp⟩
  · have hc := Blk.cell h j
    rw [Array.getElem?_toList] at hu
    rw [hu] at hc
    rw [← hc]
    congr 1
    unfold Addr.add
    split <;> simp_all
  · injection e with e
    subst e
    exact hne
theorem rulesV_of {F : World} {bp b : Nat} {cs : Array Value} {V0 V1 V2 V3 V4 V5 V6 V7 V8 V9 V10 V11 V12 V13 V14 V15 V16 : Value} (T : TypeId) (hb : b = F.heap.size) (hbp : bp < F.heap.size)
    (hcs : cs.toList = [.string (⟨#[115, 105, 116, 101]⟩ : ByteArray), .int .i64 0, V0, .string (⟨#[102, 101, 101, 100]⟩ : ByteArray), .int .i64 1, V1, .string (⟨#[114, 97, 99, 107]⟩ : ByteArray), .int .i64 2, V2, .string (⟨#[109, 97, 99, 104, 105, 110, 101]⟩ : ByteArray), .int .i64 3, V3, .string (⟨#[108, 105, 110, 107]⟩ : ByteArray), .int .i64 4, V4, .string (⟨#[103, 114, 111, 117, 112]⟩ : ByteArray), .int .i64 5, V5, .string (⟨#[112, 111, 111, 108]⟩ : ByteArray), .int .i64 6, V6, .string (⟨#[106, 111, 98]⟩ : ByteArray), .int .i64 7, V7, .string (⟨#[100, 97, 114, 107]⟩ : ByteArray), .int .i64 8, V8, .string (⟨#[102, 97, 105, 108, 117, 114, 101, 115]⟩ : ByteArray), .int .i64 9, V9, .string (⟨#[113, 117, 111, 114, 117, 109]⟩ : ByteArray), .int .i64 10, V10, .string (⟨#[107, 101, 101, 112]⟩ : ByteArray), .int .i64 11, V11, .string (⟨#[115, 112, 114, 101, 97, 100]⟩ : ByteArray), .int .i64 12, V12, .string (⟨#[111, 110, 108, 121]⟩ : ByteArray), .int .i64 13, V13, .string (⟨#[111, 114, 100, 101, 114]⟩ : ByteArray), .int .i64 14, V14, .string (⟨#[100, 105, 115, 116, 117, 114, 98]⟩ : ByteArray), .int .i64 15, V15, .string (⟨#[115, 105, 108, 101, 110, 99, 101]⟩ : ByteArray), .int .i64 16, V16])
    (r0 : RowV F bp V0 [.name]) (r1 : RowV F bp V1 [.name]) (r2 : RowV F bp V2 [.name, .word (⟨#[105, 110]⟩ : ByteArray), .ref, .word (⟨#[111, 110]⟩ : ByteArray), .ref]) (r3 : RowV F bp V3 [.name, .word (⟨#[105, 110]⟩ : ByteArray), .ref, .word (⟨#[99, 97, 112, 97, 99, 105, 116, 121]⟩ : ByteArray), .number]) (r4 : RowV F bp V4 [.ref, .ref, .number]) (r5 : RowV F bp V5 ([.name, .word (⟨#[111, 110]⟩ : ByteArray), .list] ++ loadParts)) (r6 : RowV F bp V6 ([.name, .number, .word (⟨#[111, 110]⟩ : ByteArray), .list] ++ loadParts)) (r7 : RowV F bp V7 ([.name, .word (⟨#[111, 110]⟩ : ByteArray), .ref] ++ loadParts)) (r8 : RowV F bp V8 [.ref, .word (⟨#[115, 108, 111, 116, 115]⟩ : ByteArray), .number, .word (⟨#[114, 101, 115, 101, 114, 118, 101]⟩ : ByteArray), .number]) (r9 : RowV F bp V9 [.classes]) (r10 : RowV F bp V10 [.ref]) (r11 : RowV F bp V11 [.ref, .number, .always]) (r12 : RowV F bp V12 [.ref, .word (⟨#[98, 121]⟩ : ByteArray), .domain, .number]) (r13 : RowV F bp V13 [.ref, .word (⟨#[111, 110]⟩ : ByteArray), .list]) (r14 : RowV F bp V14 [.ref, .word (⟨#[98, 101, 102, 111, 114, 101]⟩ : ByteArray), .ref]) (r15 : RowV F bp V15 [.number]) (r16 : RowV F bp V16 [.ref, .number]) : RulesV (F.alloc (.cells cs T)) bp (some ⟨b, 0, none⟩) := by
  subst hb
  have hB : Below F.heap.size F (F.alloc (.cells cs T)) := (Below.refl _ _).alloc (Nat.le_refl _) _
  have hrows : RowsV F bp rulesT [V0, V1, V2, V3, V4, V5, V6, V7, V8, V9, V10, V11, V12, V13, V14, V15, V16] := ⟨r0, r1, r2, r3, r4, r5, r6, r7, r8, r9, r10, r11, r12, r13, r14, r15, r16, trivial⟩
  have hcells : ruleCells rulesT [V0, V1, V2, V3, V4, V5, V6, V7, V8, V9, V10, V11, V12, V13, V14, V15, V16] = cs.toList := hcs.symm
  refine ⟨[V0, V1, V2, V3, V4, V5, V6, V7, V8, V9, V10, V11, V12, V13, V14, V15, V16], ?_, fun ad e => ?_, hrows.but (But.ofBelow hB)⟩
  · rw [hcells]
    exact (Reads.newRow F cs T rulesT.length 3 (by rw [← Array.length_toList, hcs]; rfl)).more (by simp)
  · injection e with e
    subst e
    simp; omega
set_option maxRecDepth 100000 in
set_option maxHeartbeats 16000000 in
theorem rules_any (bp : Nat) (X : World) (hbp : bp < X.heap.size) :
    Calls Tryd.prog 53 #[.pointer (some ⟨bp, 0, none⟩)] X fun e W => (∃ A c, e = .returned (.slice A 17 c) ∧ RulesV W bp A) ∧ Below X.heap.size X W := by
  go_enter Tryd.func53, Tryd.ntmps53
  go_wp2_with fail
  refine (word_any2 bp (⟨#[108, 111, 97, 100]⟩ : ByteArray) _ (by first | omega | (simp; omega))).mono ?_
  rintro ez1 z1 ⟨⟨pz1, qz1, rfl, hvz1⟩, hzz1⟩
  replace hzz1 : BW _ z1 := hzz1
  have hsz1 := hzz1.size
  have hlz1 : bp < z1.heap.size := by (first | omega | (simp at hsz1; omega))
  clear hsz1
  go_wp2_with fail
  refine (word_any2 bp (⟨#[115, 105, 122, 101]⟩ : ByteArray) _ (by first | omega | (simp; omega))).mono ?_
  rintro ez2 z2 ⟨⟨pz2, qz2, rfl, hvz2⟩, hzz2⟩
  replace hzz2 : BW _ z2 := hzz2
  have hsz2 := hzz2.size
  have hlz2 : bp < z2.heap.size := by (first | omega | (simp at hsz2; omega))
  clear hsz2
  go_wp2_with fail
  refine (word_any2 bp (⟨#[115, 104, 97, 114, 101]⟩ : ByteArray) _ (by first | omega | (simp; omega))).mono ?_
  rintro ez3 z3 ⟨⟨pz3, qz3, rfl, hvz3⟩, hzz3⟩
  replace hzz3 : BW _ z3 := hzz3
  have hsz3 := hzz3.size
  have hlz3 : bp < z3.heap.size := by (first | omega | (simp at hsz3; omega))
  clear hsz3
  obtain ⟨LL, hLL⟩ : ∃ LL : List Value, LL = [.func (.func 127) #[] #[.pointer (some ⟨pz1, 0, none⟩), .pointer (some ⟨qz1, 0, none⟩)], .func (.func 110) #[.pointer (some ⟨bp, 0, none⟩)] #[], .func (.func 127) #[] #[.pointer (some ⟨pz2, 0, none⟩), .pointer (some ⟨qz2, 0, none⟩)], .func (.func 110) #[.pointer (some ⟨bp, 0, none⟩)] #[], .func (.func 127) #[] #[.pointer (some ⟨pz3, 0, none⟩), .pointer (some ⟨qz3, 0, none⟩)], .func (.func 110) #[.pointer (some ⟨bp, 0, none⟩)] #[]] := ⟨_, rfl⟩
  have hLR : Reads (z3.alloc (.cells #[.func (.func 127) #[] #[.pointer (some ⟨pz1, 0, none⟩), .pointer (some ⟨qz1, 0, none⟩)], .func (.func 110) #[.pointer (some ⟨bp, 0, none⟩)] #[], .func (.func 127) #[] #[.pointer (some ⟨pz2, 0, none⟩), .pointer (some ⟨qz2, 0, none⟩)], .func (.func 110) #[.pointer (some ⟨bp, 0, none⟩)] #[], .func (.func 127) #[] #[.pointer (some ⟨pz3, 0, none⟩), .pointer (some ⟨qz3, 0, none⟩)], .func (.func 110) #[.pointer (some ⟨bp, 0, none⟩)] #[]] 90)) (z3.alloc (.cells #[.func (.func 127) #[] #[.pointer (some ⟨pz1, 0, none⟩), .pointer (some ⟨qz1, 0, none⟩)], .func (.func 110) #[.pointer (some ⟨bp, 0, none⟩)] #[], .func (.func 127) #[] #[.pointer (some ⟨pz2, 0, none⟩), .pointer (some ⟨qz2, 0, none⟩)], .func (.func 110) #[.pointer (some ⟨bp, 0, none⟩)] #[], .func (.func 127) #[] #[.pointer (some ⟨pz3, 0, none⟩), .pointer (some ⟨qz3, 0, none⟩)], .func (.func 110) #[.pointer (some ⟨bp, 0, none⟩)] #[]] 90)).heap.size 1 (some ⟨z3.heap.size, 0, none⟩) 6 LL := by subst hLL; exact (Reads.newRow z3 #[.func (.func 127) #[] #[.pointer (some ⟨pz1, 0, none⟩), .pointer (some ⟨qz1, 0, none⟩)], .func (.func 110) #[.pointer (some ⟨bp, 0, none⟩)] #[], .func (.func 127) #[] #[.pointer (some ⟨pz2, 0, none⟩), .pointer (some ⟨qz2, 0, none⟩)], .func (.func 110) #[.pointer (some ⟨bp, 0, none⟩)] #[], .func (.func 127) #[] #[.pointer (some ⟨pz3, 0, none⟩), .pointer (some ⟨qz3, 0, none⟩)], .func (.func 110) #[.pointer (some ⟨bp, 0, none⟩)] #[]] 90 6 1 rfl).more (by simp)
  have hLP : PVs z3 bp LL loadParts := by subst hLL; exact ⟨(hvz1.below hzz2).below hzz3, pv_number _ _, hvz2.below hzz3, pv_number _ _, hvz3, pv_number _ _, trivial⟩
  have hL1 : ∀ u ∈ LL, u.oneCell' = true := by subst hLL; simp [Value.oneCell']
  go_wp2_with fail
  refine (word_any2 bp (⟨#[105, 110]⟩ : ByteArray) _ (by first | omega | (simp; omega))).mono ?_
  rintro ez4 z4 ⟨⟨pz4, qz4, rfl, hvz4⟩, hzz4⟩
  replace hzz4 : BW _ z4 := hzz4
  have hsz4 := hzz4.size
  have hlz4 : bp < z4.heap.size := by (first | omega | (simp at hsz4; omega))
  clear hsz4
  go_wp2_with fail
  refine (word_any2 bp (⟨#[111, 110]⟩ : ByteArray) _ (by first | omega | (simp; omega))).mono ?_
  rintro ez5 z5 ⟨⟨pz5, qz5, rfl, hvz5⟩, hzz5⟩
  replace hzz5 : BW _ z5 := hzz5
  have hsz5 := hzz5.size
  have hlz5 : bp < z5.heap.size := by (first | omega | (simp at hsz5; omega))
  clear hsz5
  go_wp2_with fail
  refine (word_any2 bp (⟨#[105, 110]⟩ : ByteArray) _ (by first | omega | (simp; omega))).mono ?_
  rintro ez6 z6 ⟨⟨pz6, qz6, rfl, hvz6⟩, hzz6⟩
  replace hzz6 : BW _ z6 := hzz6
  have hsz6 := hzz6.size
  have hlz6 : bp < z6.heap.size := by (first | omega | (simp at hsz6; omega))
  clear hsz6
  go_wp2_with fail
  refine (word_any2 bp (⟨#[99, 97, 112, 97, 99, 105, 116, 121]⟩ : ByteArray) _ (by first | omega | (simp; omega))).mono ?_
  rintro ez7 z7 ⟨⟨pz7, qz7, rfl, hvz7⟩, hzz7⟩
  replace hzz7 : BW _ z7 := hzz7
  have hsz7 := hzz7.size
  have hlz7 : bp < z7.heap.size := by (first | omega | (simp at hsz7; omega))
  clear hsz7
  go_wp2_with fail
  refine (word_any2 bp (⟨#[111, 110]⟩ : ByteArray) _ (by first | omega | (simp; omega))).mono ?_
  rintro ez8 z8 ⟨⟨pz8, qz8, rfl, hvz8⟩, hzz8⟩
  replace hzz8 : BW _ z8 := hzz8
  have hsz8 := hzz8.size
  have hlz8 : bp < z8.heap.size := by (first | omega | (simp at hsz8; omega))
  clear hsz8
  dsimp only
  go_step
  try simp only [List.append_eq, List.cons_append, List.nil_append]
  go_wp2_with (at_builtin; go_loud (refine append_parts rfl _ _ rfl _ _ _ rfl (OwnP.lit3 _ _ _ _) _ _ 6 LL (by subst hLL; rfl) (by rw [show LL.length = 6 from by subst hLL; rfl]; exact (Reads.below hLR (show BW _ _ from (by (repeat (first | (with_reducible exact BW.refl _) | (with_reducible refine BW.alloc ?_ _) | (with_reducible refine BW.and_then ?_ (by assumption))))))).more (Nat.le_refl _)) hL1 (by subst hLL; simp) (by simp) ?_); intro v1 x1 hO1 hg1; have hr1 := own_row (bp := bp) (by assumption) hO1 hg1; have hx1 := hr1.1; have hw1 : RowV x1 bp v1 ([.name, .word (⟨#[111, 110]⟩ : ByteArray), .list] ++ loadParts) := (RowV.of (by subst hLL; rfl) hr1.2 (PVs.app ⟨pv_name _ _, PV.bw (by assumption) (by (repeat (first | (with_reducible exact BW.refl _) | (with_reducible refine BW.alloc ?_ _) | (with_reducible refine BW.and_then ?_ (by assumption))))), pv_list _ _, trivial⟩ (PVs.but hLP (BW.but bp (by (repeat (first | (with_reducible exact BW.refl _) | (with_reducible refine BW.alloc ?_ _) | (with_reducible refine BW.and_then ?_ (by assumption))))))))); have hsx1 := hx1.size; have hlx1 : bp < x1.heap.size := (by omega); clear hr1 hO1 hg1 hsx1; have hf := hw1; obtain ⟨A1, c1, _, rfl, _⟩ := hf)
  refine (word_any2 bp (⟨#[111, 110]⟩ : ByteArray) _ (by first | omega | (simp; omega))).mono ?_
  rintro ez9 z9 ⟨⟨pz9, qz9, rfl, hvz9⟩, hzz9⟩
  replace hzz9 : BW _ z9 := hzz9
  have hsz9 := hzz9.size
  have hlz9 : bp < z9.heap.size := by (first | omega | (simp at hsz9; omega))
  clear hsz9
  dsimp only
  go_step
  try simp only [List.append_eq, List.cons_append, List.nil_append]
  go_wp2_with (at_builtin; go_loud (refine append_parts rfl _ _ rfl _ _ _ rfl (OwnP.lit4 _ _ _ _ _) _ _ 6 LL (by subst hLL; rfl) (by rw [show LL.length = 6 from by subst hLL; rfl]; exact (Reads.below hLR (show BW _ _ from (by (repeat (first | (with_reducible exact BW.refl _) | (with_reducible refine BW.alloc ?_ _) | (with_reducible refine BW.and_then ?_ (by assumption))))))).more (Nat.le_refl _)) hL1 (by subst hLL; simp) (by simp) ?_); intro v2 x2 hO2 hg2; have hr2 := own_row (bp := bp) (by assumption) hO2 hg2; have hx2 := hr2.1; have hw2 : RowV x2 bp v2 ([.name, .number, .word (⟨#[111, 110]⟩ : ByteArray), .list] ++ loadParts) := (RowV.of (by subst hLL; rfl) hr2.2 (PVs.app ⟨pv_name _ _, pv_number _ _, PV.bw (by assumption) (by (repeat (first | (with_reducible exact BW.refl _) | (with_reducible refine BW.alloc ?_ _) | (with_reducible refine BW.and_then ?_ (by assumption))))), pv_list _ _, trivial⟩ (PVs.but hLP (BW.but bp (by (repeat (first | (with_reducible exact BW.refl _) | (with_reducible refine BW.alloc ?_ _) | (with_reducible refine BW.and_then ?_ (by assumption))))))))); have hsx2 := hx2.size; have hlx2 : bp < x2.heap.size := (by omega); clear hr2 hO2 hg2 hsx2; have hf := hw2; obtain ⟨A2, c2, _, rfl, _⟩ := hf)
  refine (word_any2 bp (⟨#[111, 110]⟩ : ByteArray) _ (by first | omega | (simp; omega))).mono ?_
  rintro ez10 z10 ⟨⟨pz10, qz10, rfl, hvz10⟩, hzz10⟩
  replace hzz10 : BW _ z10 := hzz10
  have hsz10 := hzz10.size
  have hlz10 : bp < z10.heap.size := by (first | omega | (simp at hsz10; omega))
  clear hsz10
  dsimp only
  go_step
  try simp only [List.append_eq, List.cons_append, List.nil_append]
  go_wp2_with (at_builtin; go_loud (refine append_parts rfl _ _ rfl _ _ _ rfl (OwnP.lit3 _ _ _ _) _ _ 6 LL (by subst hLL; rfl) (by rw [show LL.length = 6 from by subst hLL; rfl]; exact (Reads.below hLR (show BW _ _ from (by (repeat (first | (with_reducible exact BW.refl _) | (with_reducible refine BW.alloc ?_ _) | (with_reducible refine BW.and_then ?_ (by assumption))))))).more (Nat.le_refl _)) hL1 (by subst hLL; simp) (by simp) ?_); intro v3 x3 hO3 hg3; have hr3 := own_row (bp := bp) (by assumption) hO3 hg3; have hx3 := hr3.1; have hw3 : RowV x3 bp v3 ([.name, .word (⟨#[111, 110]⟩ : ByteArray), .ref] ++ loadParts) := (RowV.of (by subst hLL; rfl) hr3.2 (PVs.app ⟨pv_name _ _, PV.bw (by assumption) (by (repeat (first | (with_reducible exact BW.refl _) | (with_reducible refine BW.alloc ?_ _) | (with_reducible refine BW.and_then ?_ (by assumption))))), pv_ref _ _, trivial⟩ (PVs.but hLP (BW.but bp (by (repeat (first | (with_reducible exact BW.refl _) | (with_reducible refine BW.alloc ?_ _) | (with_reducible refine BW.and_then ?_ (by assumption))))))))); have hsx3 := hx3.size; have hlx3 : bp < x3.heap.size := (by omega); clear hr3 hO3 hg3 hsx3; have hf := hw3; obtain ⟨A3, c3, _, rfl, _⟩ := hf)
  refine (word_any2 bp (⟨#[115, 108, 111, 116, 115]⟩ : ByteArray) _ (by first | omega | (simp; omega))).mono ?_
  rintro ez11 z11 ⟨⟨pz11, qz11, rfl, hvz11⟩, hzz11⟩
  replace hzz11 : BW _ z11 := hzz11
  have hsz11 := hzz11.size
  have hlz11 : bp < z11.heap.size := by (first | omega | (simp at hsz11; omega))
  clear hsz11
  go_wp2_with fail
  refine (word_any2 bp (⟨#[114, 101, 115, 101, 114, 118, 101]⟩ : ByteArray) _ (by first | omega | (simp; omega))).mono ?_
  rintro ez12 z12 ⟨⟨pz12, qz12, rfl, hvz12⟩, hzz12⟩
  replace hzz12 : BW _ z12 := hzz12
  have hsz12 := hzz12.size
  have hlz12 : bp < z12.heap.size := by (first | omega | (simp at hsz12; omega))
  clear hsz12
  go_wp2_with fail
  refine (word_any2 bp (⟨#[98, 121]⟩ : ByteArray) _ (by first | omega | (simp; omega))).mono ?_
  rintro ez13 z13 ⟨⟨pz13, qz13, rfl, hvz13⟩, hzz13⟩
  replace hzz13 : BW _ z13 := hzz13
  have hsz13 := hzz13.size
  have hlz13 : bp < z13.heap.size := by (first | omega | (simp at hsz13; omega))
  clear hsz13
  go_wp2_with fail
  refine (word_any2 bp (⟨#[111, 110]⟩ : ByteArray) _ (by first | omega | (simp; omega))).mono ?_
  rintro ez14 z14 ⟨⟨pz14, qz14, rfl, hvz14⟩, hzz14⟩
  replace hzz14 : BW _ z14 := hzz14
  have hsz14 := hzz14.size
  have hlz14 : bp < z14.heap.size := by (first | omega | (simp at hsz14; omega))
  clear hsz14
  go_wp2_with fail
  refine (word_any2 bp (⟨#[98, 101, 102, 111, 114, 101]⟩ : ByteArray) _ (by first | omega | (simp; omega))).mono ?_
  rintro ez15 z15 ⟨⟨pz15, qz15, rfl, hvz15⟩, hzz15⟩
  replace hzz15 : BW _ z15 := hzz15
  have hsz15 := hzz15.size
  have hlz15 : bp < z15.heap.size := by (first | omega | (simp at hsz15; omega))
  clear hsz15
  go_wp2_with fail
  go_ret
  refine ⟨⟨_, _, rfl, rulesV_of 85 (by simp) (by simp; omega) rfl ?_ ?_ ?_ ?_ ?_ ?_ ?_ ?_ ?_ ?_ ?_ ?_ ?_ ?_ ?_ ?_ ?_⟩, ?_⟩
  · exact RowV.blk (vs := #[.func (.func 111) #[.pointer (some ⟨bp, 0, none⟩)] #[]]) (T := 90) (by (repeat (first | (with_reducible refine blk_newEq ?_; (first | rfl | (simp; done)); done) | (with_reducible refine Blk.alloc ?_ _) | (refine Blk.bw ?_ (by assumption))))) rfl rfl (by omega) ⟨pv_name _ _, trivial⟩
  · exact RowV.blk (vs := #[.func (.func 111) #[.pointer (some ⟨bp, 0, none⟩)] #[]]) (T := 90) (by (repeat (first | (with_reducible refine blk_newEq ?_; (first | rfl | (simp; done)); done) | (with_reducible refine Blk.alloc ?_ _) | (refine Blk.bw ?_ (by assumption))))) rfl rfl (by omega) ⟨pv_name _ _, trivial⟩
  · exact RowV.blk (vs := #[.func (.func 111) #[.pointer (some ⟨bp, 0, none⟩)] #[], .func (.func 127) #[] #[.pointer (some ⟨pz4, 0, none⟩), .pointer (some ⟨qz4, 0, none⟩)], .func (.func 112) #[.pointer (some ⟨bp, 0, none⟩)] #[], .func (.func 127) #[] #[.pointer (some ⟨pz5, 0, none⟩), .pointer (some ⟨qz5, 0, none⟩)], .func (.func 112) #[.pointer (some ⟨bp, 0, none⟩)] #[]]) (T := 90) (by (repeat (first | (with_reducible refine blk_newEq ?_; (first | rfl | (simp; done)); done) | (with_reducible refine Blk.alloc ?_ _) | (refine Blk.bw ?_ (by assumption))))) rfl rfl (by omega) ⟨pv_name _ _, PV.bw (by assumption) (show BW _ _ from (by (repeat (first | (with_reducible exact BW.refl _) | (with_reducible refine BW.alloc ?_ _) | (with_reducible refine BW.and_then ?_ (by assumption)))))), pv_ref _ _, PV.bw (by assumption) (show BW _ _ from (by (repeat (first | (with_reducible exact BW.refl _) | (with_reducible refine BW.alloc ?_ _) | (with_reducible refine BW.and_then ?_ (by assumption)))))), pv_ref _ _, trivial⟩
  · exact RowV.blk (vs := #[.func (.func 111) #[.pointer (some ⟨bp, 0, none⟩)] #[], .func (.func 127) #[] #[.pointer (some ⟨pz6, 0, none⟩), .pointer (some ⟨qz6, 0, none⟩)], .func (.func 112) #[.pointer (some ⟨bp, 0, none⟩)] #[], .func (.func 127) #[] #[.pointer (some ⟨pz7, 0, none⟩), .pointer (some ⟨qz7, 0, none⟩)], .func (.func 110) #[.pointer (some ⟨bp, 0, none⟩)] #[]]) (T := 90) (by (repeat (first | (with_reducible refine blk_newEq ?_; (first | rfl | (simp; done)); done) | (with_reducible refine Blk.alloc ?_ _) | (refine Blk.bw ?_ (by assumption))))) rfl rfl (by omega) ⟨pv_name _ _, PV.bw (by assumption) (show BW _ _ from (by (repeat (first | (with_reducible exact BW.refl _) | (with_reducible refine BW.alloc ?_ _) | (with_reducible refine BW.and_then ?_ (by assumption)))))), pv_ref _ _, PV.bw (by assumption) (show BW _ _ from (by (repeat (first | (with_reducible exact BW.refl _) | (with_reducible refine BW.alloc ?_ _) | (with_reducible refine BW.and_then ?_ (by assumption)))))), pv_number _ _, trivial⟩
  · exact RowV.blk (vs := #[.func (.func 112) #[.pointer (some ⟨bp, 0, none⟩)] #[], .func (.func 112) #[.pointer (some ⟨bp, 0, none⟩)] #[], .func (.func 110) #[.pointer (some ⟨bp, 0, none⟩)] #[]]) (T := 90) (by (repeat (first | (with_reducible refine blk_newEq ?_; (first | rfl | (simp; done)); done) | (with_reducible refine Blk.alloc ?_ _) | (refine Blk.bw ?_ (by assumption))))) rfl rfl (by omega) ⟨pv_ref _ _, pv_ref _ _, pv_number _ _, trivial⟩
  · exact RowV.but hw1 (BW.but bp (show BW _ _ from (by (repeat (first | (with_reducible exact BW.refl _) | (with_reducible refine BW.alloc ?_ _) | (with_reducible refine BW.and_then ?_ (by assumption)))))))
  · exact RowV.but hw2 (BW.but bp (show BW _ _ from (by (repeat (first | (with_reducible exact BW.refl _) | (with_reducible refine BW.alloc ?_ _) | (with_reducible refine BW.and_then ?_ (by assumption)))))))
  · exact RowV.but hw3 (BW.but bp (show BW _ _ from (by (repeat (first | (with_reducible exact BW.refl _) | (with_reducible refine BW.alloc ?_ _) | (with_reducible refine BW.and_then ?_ (by assumption)))))))
  · exact RowV.blk (vs := #[.func (.func 112) #[.pointer (some ⟨bp, 0, none⟩)] #[], .func (.func 127) #[] #[.pointer (some ⟨pz11, 0, none⟩), .pointer (some ⟨qz11, 0, none⟩)], .func (.func 110) #[.pointer (some ⟨bp, 0, none⟩)] #[], .func (.func 127) #[] #[.pointer (some ⟨pz12, 0, none⟩), .pointer (some ⟨qz12, 0, none⟩)], .func (.func 110) #[.pointer (some ⟨bp, 0, none⟩)] #[]]) (T := 90) (by (repeat (first | (with_reducible refine blk_newEq ?_; (first | rfl | (simp; done)); done) | (with_reducible refine Blk.alloc ?_ _) | (refine Blk.bw ?_ (by assumption))))) rfl rfl (by omega) ⟨pv_ref _ _, PV.bw (by assumption) (show BW _ _ from (by (repeat (first | (with_reducible exact BW.refl _) | (with_reducible refine BW.alloc ?_ _) | (with_reducible refine BW.and_then ?_ (by assumption)))))), pv_number _ _, PV.bw (by assumption) (show BW _ _ from (by (repeat (first | (with_reducible exact BW.refl _) | (with_reducible refine BW.alloc ?_ _) | (with_reducible refine BW.and_then ?_ (by assumption)))))), pv_number _ _, trivial⟩
  · exact RowV.blk (vs := #[.func (.func 114) #[.pointer (some ⟨bp, 0, none⟩)] #[]]) (T := 90) (by (repeat (first | (with_reducible refine blk_newEq ?_; (first | rfl | (simp; done)); done) | (with_reducible refine Blk.alloc ?_ _) | (refine Blk.bw ?_ (by assumption))))) rfl rfl (by omega) ⟨pv_classes _ _, trivial⟩
  · exact RowV.blk (vs := #[.func (.func 112) #[.pointer (some ⟨bp, 0, none⟩)] #[]]) (T := 90) (by (repeat (first | (with_reducible refine blk_newEq ?_; (first | rfl | (simp; done)); done) | (with_reducible refine Blk.alloc ?_ _) | (refine Blk.bw ?_ (by assumption))))) rfl rfl (by omega) ⟨pv_ref _ _, trivial⟩
  · exact RowV.blk (vs := #[.func (.func 112) #[.pointer (some ⟨bp, 0, none⟩)] #[], .func (.func 110) #[.pointer (some ⟨bp, 0, none⟩)] #[], .func (.func 115) #[.pointer (some ⟨bp, 0, none⟩)] #[]]) (T := 90) (by (repeat (first | (with_reducible refine blk_newEq ?_; (first | rfl | (simp; done)); done) | (with_reducible refine Blk.alloc ?_ _) | (refine Blk.bw ?_ (by assumption))))) rfl rfl (by omega) ⟨pv_ref _ _, pv_number _ _, pv_always _ _, trivial⟩
  · exact RowV.blk (vs := #[.func (.func 112) #[.pointer (some ⟨bp, 0, none⟩)] #[], .func (.func 127) #[] #[.pointer (some ⟨pz13, 0, none⟩), .pointer (some ⟨qz13, 0, none⟩)], .func (.func 116) #[.pointer (some ⟨bp, 0, none⟩)] #[], .func (.func 110) #[.pointer (some ⟨bp, 0, none⟩)] #[]]) (T := 90) (by (repeat (first | (with_reducible refine blk_newEq ?_; (first | rfl | (simp; done)); done) | (with_reducible refine Blk.alloc ?_ _) | (refine Blk.bw ?_ (by assumption))))) rfl rfl (by omega) ⟨pv_ref _ _, PV.bw (by assumption) (show BW _ _ from (by (repeat (first | (with_reducible exact BW.refl _) | (with_reducible refine BW.alloc ?_ _) | (with_reducible refine BW.and_then ?_ (by assumption)))))), pv_domain _ _, pv_number _ _, trivial⟩
  · exact RowV.blk (vs := #[.func (.func 112) #[.pointer (some ⟨bp, 0, none⟩)] #[], .func (.func 127) #[] #[.pointer (some ⟨pz14, 0, none⟩), .pointer (some ⟨qz14, 0, none⟩)], .func (.func 113) #[.pointer (some ⟨bp, 0, none⟩)] #[]]) (T := 90) (by (repeat (first | (with_reducible refine blk_newEq ?_; (first | rfl | (simp; done)); done) | (with_reducible refine Blk.alloc ?_ _) | (refine Blk.bw ?_ (by assumption))))) rfl rfl (by omega) ⟨pv_ref _ _, PV.bw (by assumption) (show BW _ _ from (by (repeat (first | (with_reducible exact BW.refl _) | (with_reducible refine BW.alloc ?_ _) | (with_reducible refine BW.and_then ?_ (by assumption)))))), pv_list _ _, trivial⟩
  · exact RowV.blk (vs := #[.func (.func 112) #[.pointer (some ⟨bp, 0, none⟩)] #[], .func (.func 127) #[] #[.pointer (some ⟨pz15, 0, none⟩), .pointer (some ⟨qz15, 0, none⟩)], .func (.func 112) #[.pointer (some ⟨bp, 0, none⟩)] #[]]) (T := 90) (by (repeat (first | (with_reducible refine blk_newEq ?_; (first | rfl | (simp; done)); done) | (with_reducible refine Blk.alloc ?_ _) | (refine Blk.bw ?_ (by assumption))))) rfl rfl (by omega) ⟨pv_ref _ _, PV.bw (by assumption) (show BW _ _ from (by (repeat (first | (with_reducible exact BW.refl _) | (with_reducible refine BW.alloc ?_ _) | (with_reducible refine BW.and_then ?_ (by assumption)))))), pv_ref _ _, trivial⟩
  · exact RowV.blk (vs := #[.func (.func 110) #[.pointer (some ⟨bp, 0, none⟩)] #[]]) (T := 90) (by (repeat (first | (with_reducible refine blk_newEq ?_; (first | rfl | (simp; done)); done) | (with_reducible refine Blk.alloc ?_ _) | (refine Blk.bw ?_ (by assumption))))) rfl rfl (by omega) ⟨pv_number _ _, trivial⟩
  · exact RowV.blk (vs := #[.func (.func 112) #[.pointer (some ⟨bp, 0, none⟩)] #[], .func (.func 110) #[.pointer (some ⟨bp, 0, none⟩)] #[]]) (T := 90) (by (repeat (first | (with_reducible refine blk_newEq ?_; (first | rfl | (simp; done)); done) | (with_reducible refine Blk.alloc ?_ _) | (refine Blk.bw ?_ (by assumption))))) rfl rfl (by omega) ⟨pv_ref _ _, pv_number _ _, trivial⟩
  · exact (show BW X _ from (by (repeat (first | (with_reducible exact BW.refl _) | (with_reducible refine BW.alloc ?_ _) | (with_reducible refine BW.and_then ?_ (by assumption))))))
end Go.Proofs.YtanhkeeifnimgaaDoor
