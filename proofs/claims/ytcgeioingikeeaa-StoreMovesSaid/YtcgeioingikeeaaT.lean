/- The closures of files (is this the name, does this name lie ahead) and slices.IndexFunc over files: what each returns, for every row of files that reads. A block of files that the call owns, cell by cell: how it reads and how it stays. slices.Clone over files: a row of its own that reads alike. A row of files of the call's own: opened, made, cut and written at one place. slices.DeleteFunc over files: the row without the files that the closure names. slices.Insert over files where the place is the end or there is room. slices.Insert over files where the row must grow. -/
import Derived.Test.YtcgeioingikeeaaS
import Derived.WalkSpells
import Derived.Lib.AppendZeros
import Derived.Lib.AppendZerosOnto
import Derived.Lib.Overlaps
import Derived.Laws.Externs
import Derived.Deep.RegionLaw
namespace Go.Proofs.Ytcgeioingikeeaa.P
open Go.RowKit Go.Proofs.YtcgeioingikeeaaW.PrintWords Go.Proofs.YtcgeioingikeeaaW.PrintLast Go.Proofs.YtcgeioingikeeaaW.PrintMore
set_option linter.unusedVariables false
set_option linter.unusedSimpArgs false
attribute [local go_sem] str_geq str_gtr str_leq
def named (name : ByteArray) (x : S38) : Bool := x.f0.toList == name.toList
def aheadOf (name : ByteArray) (x : S38) : Bool := Op.bytesLess name.toList x.f0.toList

set_option maxHeartbeats 1000000 in
theorem named_is (name : ByteArray) (x : ByteArray) (v : Value) (W : World) :
    Calls Try.prog 63 #[.string name, .agg #[.string x, v]] W fun e W' => e = .returned (.bool (x.toList == name.toList)) ∧ Below W.heap.size W W' := by
  go_enter Try.func63, Try.ntmps63
  go_wp2
  go_ret
  exact ⟨rfl, (Below.refl _ _).alloc (Nat.le_refl _) _⟩
set_option maxHeartbeats 1000000 in
theorem named_ahead (name : ByteArray) (x : ByteArray) (v : Value) (W : World) :
    Calls Try.prog 59 #[.string name, .agg #[.string x, v]] W fun e W' => e = .returned (.bool (Op.bytesLess name.toList x.toList)) ∧ Below W.heap.size W W' := by
  go_enter Try.func59, Try.ntmps59
  go_wp2
  go_ret
  exact ⟨rfl, (Below.refl _ _).alloc (Nat.le_refl _) _⟩

/-- The first that is so, or -1. -/
def idxOf (p : S38 → Bool) (l : List S38) : Int := match l.findIdx? p with | some i => (i : Int) | none => -1
theorem idxOf_at {p : S38 → Bool} {l : List S38} (i : Nat) (hi : i < l.length) (hp : p (l.getD i z38) = true) (hn : ∀ j, j < i → p (l.getD j z38) = false) : idxOf p l = i := by
  have : l.findIdx? p = some i := by
    rw [List.findIdx?_eq_some_iff_getElem]
    refine ⟨hi, by simpa [List.getD_eq_getElem?_getD, List.getElem?_eq_getElem hi] using hp, fun j hj => ?_⟩
    have := hn j hj
    rw [List.getD_eq_getElem?_getD, List.getElem?_eq_getElem (by omega)] at this
    simpa using this
  unfold idxOf; rw [this]
theorem all_succ {p : S38 → Bool} {l : List S38} {i : Nat} (hn : ∀ j, j < i → p (l.getD j z38) = false) (h : p (l.getD i z38) = false) : ∀ j, j < i + 1 → p (l.getD j z38) = false := by
  intro j hj
  rcases Nat.lt_or_ge j i with h1 | h1
  · exact hn j h1
  · obtain rfl : j = i := by omega
    exact h
theorem idxOf_none {p : S38 → Bool} {l : List S38} (hn : ∀ j, j < l.length → p (l.getD j z38) = false) : idxOf p l = -1 := by
  have : l.findIdx? p = none := by
    rw [List.findIdx?_eq_none_iff]
    intro x hx
    obtain ⟨j, hj, rfl⟩ := List.mem_iff_getElem.1 hx
    have := hn j hj
    rwa [List.getD_eq_getElem?_getD, List.getElem?_eq_getElem hj] at this
  unfold idxOf; rw [this]

set_option maxHeartbeats 2000000 in
theorem indexFunc_is (name : ByteArray) (A0 : Option Addr) (c0 : Nat) (l0 : List S38) (w : World) (hr0 : Kd.C k38 w A0 l0.length l0) :
    Calls Try.prog 58 #[.slice A0 l0.length c0, .func (.func 63) #[.string name] #[]] w fun e w' => e = .returned (.int .i64 (idxOf (named name) l0)) ∧ Below w.heap.size w w' := by
  have HR := Aside0.mk hr0
  have hmax := Kd.C_max hr0
  clear hr0
  go_enter Try.func58, Try.ntmps58
  go_wp2
  go_loopg [8] l0.length (fun kq v8 w' => ∃ i : Nat, v8 = .int .i64 i ∧ i + kq = l0.length ∧ Aside0 (∀ j, j < i → named name (l0.getD j z38) = false) ∧ Aside0 (Below w.heap.size w w'))
  case atStart => exact ⟨0, rfl, by omega, ⟨fun j hj => absurd hj (by omega)⟩, ⟨Below.refl _ _⟩⟩
  case round =>
    obtain ⟨i, rfl, hi, HN, HB⟩ := hrel
    by_cases hlt : i < l0.length
    · obtain ⟨ad, A1, c1, e1, hx0, hx1, _, _⟩ := at_T38 (Kd.C_below HR.out HB.out) (i : Int) (by omega) (by omega)
      cases e1
      rw [Int.toNat_natCast] at hx0 hx1
      have HRD : rd_T38 l0 (i : Int) = l0.getD i z38 := by unfold rd_T38; rw [Int.toNat_natCast]
      rw [HRD] at hx0 hx1
      clear HRD
      obtain ⟨x, hxe⟩ : ∃ x, l0.getD i z38 = x := ⟨_, rfl⟩
      rw [hxe] at hx0 hx1
      have HX := Aside0.mk hxe
      clear hxe
      obtain ⟨k1, rfl⟩ : ∃ k1, gk = k1 + 1 := ⟨gk - 1, by omega⟩
      cases hp : named name x
      · have HP := Aside0.mk hp
        have hp' : (x.f0.toList == name.toList) = false := hp
        clear hp
        go_wp2_with (go_at_call 63; refine (named_is name _ _ _).mono ?_; rintro e w1 ⟨rfl, hb⟩; have HB1 := Aside0.mk (below_step HB.out hb); clear hb HB; rw [hp'])
        go_roundg k1
        case measure => omega
        case rel => exact ⟨i + 1, by go_num, by omega, ⟨all_succ HN.out (by rw [HX.out]; exact HP.out)⟩, HB1⟩
      · have HP := Aside0.mk hp
        have hp' : (x.f0.toList == name.toList) = true := hp
        clear hp
        go_wp2_with (go_at_call 63; refine (named_is name _ _ _).mono ?_; rintro e w1 ⟨rfl, hb⟩; have HB1 := Aside0.mk (below_step HB.out hb); clear hb HB; rw [hp'])
        go_ret
        exact ⟨by rw [idxOf_at i hlt (by rw [HX.out]; exact HP.out) HN.out]; rfl, HB1.out⟩
    · have hge : l0.length ≤ i := by omega
      clear hlt
      go_wp2
      go_ret
      exact ⟨by rw [idxOf_none (by intro j hj; exact HN.out j (by omega))]; rfl, HB.out⟩

set_option maxHeartbeats 2000000 in
theorem indexFunc_ahead (name : ByteArray) (A0 : Option Addr) (c0 : Nat) (l0 : List S38) (w : World) (hr0 : Kd.C k38 w A0 l0.length l0) :
    Calls Try.prog 58 #[.slice A0 l0.length c0, .func (.func 59) #[.string name] #[]] w fun e w' => e = .returned (.int .i64 (idxOf (aheadOf name) l0)) ∧ Below w.heap.size w w' := by
  have HR := Aside0.mk hr0
  have hmax := Kd.C_max hr0
  clear hr0
  go_enter Try.func58, Try.ntmps58
  go_wp2
  go_loopg [8] l0.length (fun kq v8 w' => ∃ i : Nat, v8 = .int .i64 i ∧ i + kq = l0.length ∧ Aside0 (∀ j, j < i → aheadOf name (l0.getD j z38) = false) ∧ Aside0 (Below w.heap.size w w'))
  case atStart => exact ⟨0, rfl, by omega, ⟨fun j hj => absurd hj (by omega)⟩, ⟨Below.refl _ _⟩⟩
  case round =>
    obtain ⟨i, rfl, hi, HN, HB⟩ := hrel
    by_cases hlt : i < l0.length
    · obtain ⟨ad, A1, c1, e1, hx0, hx1, _, _⟩ := at_T38 (Kd.C_below HR.out HB.out) (i : Int) (by omega) (by omega)
      cases e1
      rw [Int.toNat_natCast] at hx0 hx1
      have HRD : rd_T38 l0 (i : Int) = l0.getD i z38 := by unfold rd_T38; rw [Int.toNat_natCast]
      rw [HRD] at hx0 hx1
      clear HRD
      obtain ⟨x, hxe⟩ : ∃ x, l0.getD i z38 = x := ⟨_, rfl⟩
      rw [hxe] at hx0 hx1
      have HX := Aside0.mk hxe
      clear hxe
      obtain ⟨k1, rfl⟩ : ∃ k1, gk = k1 + 1 := ⟨gk - 1, by omega⟩
      cases hp : aheadOf name x
      · have HP := Aside0.mk hp
        have hp' : Op.bytesLess name.toList x.f0.toList = false := hp
        clear hp
        go_wp2_with (go_at_call 59; refine (named_ahead name _ _ _).mono ?_; rintro e w1 ⟨rfl, hb⟩; have HB1 := Aside0.mk (below_step HB.out hb); clear hb HB; rw [hp'])
        go_roundg k1
        case measure => omega
        case rel => exact ⟨i + 1, by go_num, by omega, ⟨all_succ HN.out (by rw [HX.out]; exact HP.out)⟩, HB1⟩
      · have HP := Aside0.mk hp
        have hp' : Op.bytesLess name.toList x.f0.toList = true := hp
        clear hp
        go_wp2_with (go_at_call 59; refine (named_ahead name _ _ _).mono ?_; rintro e w1 ⟨rfl, hb⟩; have HB1 := Aside0.mk (below_step HB.out hb); clear hb HB; rw [hp'])
        go_ret
        exact ⟨by rw [idxOf_at i hlt (by rw [HX.out]; exact HP.out) HN.out]; rfl, HB1.out⟩
    · have hge : l0.length ≤ i := by omega
      clear hlt
      go_wp2
      go_ret
      exact ⟨by rw [idxOf_none (by intro j hj; exact HN.out j (by omega))]; rfl, HB.out⟩
end Go.Proofs.Ytcgeioingikeeaa.P
namespace Go.Proofs.Ytcgeioingikeeaa.P
open Go.RowKit Go.Proofs.YtcgeioingikeeaaW.PrintWords Go.Proofs.YtcgeioingikeeaaW.PrintLast Go.Proofs.YtcgeioingikeeaaW.PrintMore
set_option linter.unusedVariables false
set_option linter.unusedSimpArgs false

/-- A row that is read, laid flat. -/
theorem row_cells {α : Type} {R : α → List Value → Prop} {size : Nat} {w : World} {A : Option Addr} {n : Nat} {ps : List α} (h : ReadsRow R size w A n ps) (hn : 0 < n) :
    ∃ ad cs, A = some ad ∧ Reps R size ps cs ∧ ∀ j u, cs[j]? = some u → w.cell? (ad.add j) = some u := by
  obtain ⟨hl, _, hc0⟩ := h
  obtain ⟨ad, rfl, hc⟩ := hc0 hn
  have key : ∀ m, m ≤ ps.length → ∃ cs, Reps R size (ps.take m) cs ∧ ∀ j u, cs[j]? = some u → w.cell? (ad.add j) = some u := by
    intro m
    induction m with
    | zero => intro _; exact ⟨[], by rw [List.take_zero]; exact Reps.none _ _, fun j u hu => by simp at hu⟩
    | succ m ih =>
      intro hm
      obtain ⟨cs, hr, hcs⟩ := ih (by omega)
      obtain ⟨c, hcl, hR, hcc⟩ := hc m ps[m] (List.getElem?_eq_getElem (by omega))
      refine ⟨cs ++ c, ?_, fun j u hu => ?_⟩
      · rw [List.take_succ_eq_append_getElem (by omega)]
        exact hr.snoc hR hcl
      · have hlen : cs.length = m * size := by rw [hr.1, List.length_take, Nat.min_eq_left (by omega)]
        rcases Nat.lt_or_ge j cs.length with hj | hj
        · rw [List.getElem?_append_left hj] at hu
          exact hcs j u hu
        · rw [List.getElem?_append_right hj] at hu
          have := hcc _ u hu
          rwa [show m * size + (j - cs.length) = j by omega] at this
  obtain ⟨cs, hr, hcs⟩ := key ps.length (Nat.le_refl _)
  rw [List.take_length] at hr
  exact ⟨ad, cs, rfl, hr, hcs⟩

/-- A row of the call's own, whose elements lead to what is only read and lies in ok, apart from the row. -/
def O {α : Type} (d : Kd α) (e : Nat) (w : World) (base : Nat) (ok : Nat → Prop) (v : Value) (xs : List α) : Prop :=
  ∃ inner, w.ownsRow base e d.sz v xs.length inner ∧ Reps (fun x c => Kd.FK d w (fun k => ok k ∧ some k ≠ v.ownBlock) x c) d.sz xs inner

theorem FK_one {α : Type} {d : Kd α} {w : World} {ok : Nat → Prop} {x : α} {c : List Value} (h : Kd.FK d w ok x c) : c.length = d.sz ∧ ∀ u ∈ c, u.oneCell' = true := ⟨d.K_len (Kd.FK_now h), d.K_one (Kd.FK_now h)⟩
theorem reps_length {α : Type} {R : α → List Value → Prop} {size : Nat} {ps : List α} {cs : List Value} (h : Reps R size ps cs) : cs.length = ps.length * size := h.1

theorem O_nil {α : Type} (d : Kd α) (e : Nat) (w : World) (base : Nat) (ok : Nat → Prop) : O d e w base ok (.slice none 0 0) [] := ⟨[], own_nil _ _ _ _, Reps.none _ _⟩
theorem O_slice {α : Type} {d : Kd α} {e : Nat} {w : World} {base : Nat} {ok : Nat → Prop} {v : Value} {xs : List α} (h : O d e w base ok v xs) : ∃ A c, v = .slice A xs.length c := by
  obtain ⟨_, h1, _⟩ := h; exact own_slice h1
theorem O_mono {α : Type} {d : Kd α} {e : Nat} {w : World} {base : Nat} {ok ok' : Nat → Prop} {v : Value} {xs : List α} (h : O d e w base ok v xs) (hok : ∀ k, ok k → ok' k) : O d e w base ok' v xs := by
  obtain ⟨inner, h1, h2⟩ := h; exact ⟨inner, h1, h2.imp_ fun x c hx => Kd.FK_mono hx fun k hk => ⟨hok k hk.1, hk.2⟩⟩
theorem O_below {α : Type} {d : Kd α} {e : Nat} {w w1 : World} {base : Nat} {ok : Nat → Prop} {v : Value} {xs : List α} (h : O d e w base ok v xs) (hb : Below w.heap.size w w1) : O d e w1 base ok v xs := by
  obtain ⟨inner, h1, h2⟩ := h; exact ⟨inner, pw_own_below h1 hb, h2.imp_ fun x c hx => Kd.FK_below hx hb⟩
theorem O_grown {α : Type} {d : Kd α} {e : Nat} {w w1 : World} {base : Nat} {ok : Nat → Prop} {v : Value} {xs : List α} {row : Option Nat} (h : O d e w base ok v xs) (hg : w.grownBy w1 row) (hne : v.ownBlock = none ∨ v.ownBlock ≠ row) (hok : ∀ k, ok k → some k ≠ row) : O d e w1 base ok v xs := by
  obtain ⟨inner, h1, h2⟩ := h; exact ⟨inner, own_other h1 hg hne, h2.imp_ fun x c hx => Kd.FK_grown hx hg fun k hk => hok k hk.1⟩
theorem O_lower {α : Type} {d : Kd α} {e : Nat} {w : World} {base base' : Nat} {ok : Nat → Prop} {v : Value} {xs : List α} (h : O d e w base ok v xs) (hb : base' ≤ base) : O d e w base' ok v xs := by
  obtain ⟨inner, h1, h2⟩ := h; exact ⟨inner, own_weaken h1 hb, h2⟩
theorem O_base {α : Type} {d : Kd α} {e : Nat} {w : World} {base : Nat} {ok : Nat → Prop} {v : Value} {xs : List α} (h : O d e w base ok v xs) : ∀ k, v.ownBlock = some k → base ≤ k := by
  obtain ⟨_, h1, _⟩ := h; exact own_base h1
theorem O_N {α : Type} {d : Kd α} {e : Nat} {w : World} {base : Nat} {ok : Nat → Prop} {v : Value} {xs : List α} (h : O d e w base ok v xs) : Kd.N d e w base (fun k => ok k ∨ base ≤ k) v xs := by
  obtain ⟨inner, h1, h2⟩ := h
  refine ⟨fun k hk => .inr (own_base h1 k hk), Kd.chunks d.sz xs.length inner, Kd.chunks_length _ _ _, ⟨fun k hk => hk.symm, inner, by rw [Kd.chunks_length]; exact h1, Kd.reps_raw h2 (fun x c hp => FK_one hp)⟩, fun j x c hx hc => ?_⟩
  rw [Kd.chunks_get hc]
  exact Kd.FK_mono (h2.2 j x hx) fun k hk => ⟨.inl hk.1, hk.2⟩
theorem O_V {α : Type} {d : Kd α} {e : Nat} {w : World} {base : Nat} {ok : Nat → Prop} {v : Value} {xs : List α} (h : O d e w base ok v xs) : Kd.V d e w base (fun k => ok k ∨ base ≤ k) v xs := Kd.N_V (O_N h)
theorem C_none {α : Type} {d : Kd α} {w : World} {n : Nat} {xs : List α} (h : d.C w none n xs) : xs = [] := by
  obtain ⟨hl, _, hc⟩ := h
  rcases Nat.eq_zero_or_pos n with h0 | h0
  · exact List.eq_nil_of_length_eq_zero (by omega)
  · obtain ⟨_, h, _⟩ := hc h0; cases h
end Go.Proofs.Ytcgeioingikeeaa.P
namespace Go.Proofs.Ytcgeioingikeeaa.P
open Go.RowKit Go.Proofs.YtcgeioingikeeaaW.PrintWords Go.Proofs.YtcgeioingikeeaaW.PrintLast Go.Proofs.YtcgeioingikeeaaW.PrintMore
set_option linter.unusedVariables false
set_option linter.unusedSimpArgs false

theorem cell_later {w : World} {a : Addr} {v : Value} {o : Obj} (h : w.cell? a = some v) : (w.alloc o).cell? a = some v := pw_cell_below (below_alloc (Below.refl _ _) o) h
theorem own_empty (w : World) (e size : Nat) : (w.alloc (.cells #[] e (0, 0))).ownsRow w.heap.size e size (.slice (some ⟨w.heap.size, 0, none⟩) 0 0) 0 [] :=
  ⟨by simp, .inr ⟨w.heap.size, 0, #[], rfl, Nat.le_refl _, heap_alloc_new _ _, Nat.le_refl _, by unfold maxLen; omega, by simp, by simp⟩⟩
/-- An append of nothing. -/
theorem run_append_nothing {P : Program} (w : World) (t ty e : TypeId) {z : Option Value} {size bytes : Nat} (ht : P.underlying t = some (.slice e)) (hi : (P.info? e).map (fun i => (i.zero, i.size, i.bytes)) = some (z, size, bytes)) (A : Option Addr) (n c : Nat) (B : Addr) (d : Nat) (hn : n ≤ c) :
    (Builtin.append_ #[t, t] ty #[.slice A n c, .slice (some B) 0 d]).run P w = .ok (.slice A n c) w := by
  cases hq : P.info? e with
  | none => simp [hq] at hi
  | some i =>
    have hfc := run_firstCells_some (P := P) w i.size 0 B 0 d [] (by simp) (fun j u hu => by simp at hu)
    cases A <;> simp [Builtin.append_, run_underlying ht, sizeOf, typeInfo, hq, Builtin.lenOf, hn, hfc, storeCells]
theorem wpList_append_nothing {P : Program} {w : World} {ops : Array Oper} {rest : List Oper} {o : Oper} {a : Act} {Q : Exit → Act → World → Prop} (hgd : o.guard = none) (s x : Operand) (t : TypeId)
    (ho : o.op = .call { callee := .builtin .append, args := #[s, x], argTypes := #[t, t] }) {e : TypeId} {z : Option Value} {size bytes : Nat} (ht : P.underlying t = some (.slice e)) (hi : (P.info? e).map (fun i => (i.zero, i.size, i.bytes)) = some (z, size, bytes))
    (A : Option Addr) (n c : Nat) (B : Addr) (d : Nat) (hs : a.eval s = .slice A n c) (hx : a.eval x = .slice (some B) 0 d) (h : wpList P ops Q rest (a.put o.dst (.slice A n c)) w) (hn : n ≤ c := by omega) : wpList P ops Q (o :: rest) a w := by
  refine wpList_plain hgd fun K hK => ?_
  have hrun := run_append_nothing (P := P) w t o.type e ht hi A n c B d hn
  unfold Oper.wp
  simp [execOp, ho, resolve, invoke, builtin, hs, hx, hrun, Result.andThen]
  exact hK _ _ h

set_option maxHeartbeats 2000000 in
theorem cloneF (ok : Nat → Prop) (A0 : Option Addr) (c0 : Nat) (l0 : List S38) (w : World) (hf : Kd.F k38 w ok A0 l0.length l0) (hlen : l0.length ≤ 1000000) :
    Calls Try.prog 57 #[.slice A0 l0.length c0] w fun e w' => ∃ v, e = .returned v ∧ O k38 38 w' w.heap.size (fun k => ok k ∧ k < w.heap.size) v l0 ∧ Below w.heap.size w w' := by
  have hF := Kd.F_bound hf
  clear hf
  have hnil := Lib.run_eql_slice_nil (P := Try.prog)
  cases A0 with
  | none =>
    have h0 := C_none (Kd.F_now hF)
    subst h0
    go_enter Try.func57, Try.ntmps57
    go_wp2
    go_ret
    exact ⟨_, rfl, O_nil _ _ _ _ _, Below.refl _ _⟩
  | some a =>
    rcases Nat.eq_zero_or_pos l0.length with h0 | h0
    · obtain rfl := List.eq_nil_of_length_eq_zero h0
      clear h0 hlen
      go_enter Try.func57, Try.ntmps57
      go_wp2_with (at_builtin; refine wpList_append_nothing rfl _ _ 22 rfl Try.underlying22 info38 (some ⟨w.heap.size, 0, none⟩) 0 0 a c0 rfl rfl ?_)
      go_ret
      exact ⟨_, rfl, ⟨[], own_empty _ _ _, Reps.none _ _⟩, (Below.refl _ _).alloc (Nat.le_refl _) _⟩
    · obtain ⟨ad, cs, e1, hreps, hcs⟩ := row_cells (Kd.F_rows hF) h0
      cases e1
      obtain ⟨i0, hi, hz0, hz1, hz2⟩ := info_parts info38
      have hl := hreps.1
      have hone := Kd.reps_one hreps (by decide) (fun _ _ hx => (FK_one hx).2)
      have HR := Aside0.mk hreps
      have HC := Aside0.mk hcs
      have HI := Aside0.mk hi
      have HZ0 := Aside0.mk hz0
      have HZ1 := Aside0.mk hz1
      have HZ2 := Aside0.mk hz2
      have HL := Aside0.mk hl
      have H1 := Aside0.mk hone
      clear hreps hcs hi hz0 hz1 hz2 hl hone hF
      go_enter Try.func57, Try.ntmps57
      go_wp2_with (at_builtin; refine wpList_append_grows _ rfl _ _ 22 rfl 38 i0 _ 2 40 Try.underlying22 HI.out HZ0.out HZ1.out HZ2.out rfl (by decide) (some ⟨w.heap.size, 0, none⟩) 0 0 [] rfl (fun h => by cases h) rfl (fun _ _ j u hu => by simp at hu) a l0.length c0 cs rfl HL.out ?ce H1.out (by omega) (by unfold maxLen; omega) (by omega) ?kk; (case ce => intro j u hu; exact cell_later (HC.out j u hu)); intro v' w1 hown hgrow; have HO := Aside0.mk hown; have HG := Aside0.mk hgrow; clear hown hgrow)
      go_ret
      have hb1 : Below w.heap.size w w1 := (((Below.refl _ _).alloc (Nat.le_refl _) _).grown HG.out (by simp) (fun k hk => by cases hk))
      have hown := HO.out
      rw [Nat.zero_add, List.nil_append] at hown
      refine ⟨_, rfl, ⟨cs, own_weaken hown (by simp), HR.out.imp_ fun x c hx => ?_⟩, hb1⟩
      refine Kd.FK_mono (Kd.FK_step (Kd.FK_bound hx) (fun k hk hlt => hb1.block k hlt)) (fun k hk => ⟨hk.1, fun he => ?_⟩)
      have h1 := own_base hown k he.symm
      have h2 := hk.2
      rw [World.size_alloc] at h1
      omega


set_option maxHeartbeats 2000000 in
theorem cloneB (ok : Nat → Prop) (A0 : Option Addr) (c0 : Nat) (l0 : List Int) (w : World) (hf : Kd.F (Kd.int .u8) w ok A0 l0.length l0) (hlen : l0.length ≤ 1000000) :
    Calls Try.prog 61 #[.slice A0 l0.length c0] w fun e w' => ∃ v, e = .returned v ∧ O (Kd.int .u8) 5 w' w.heap.size (fun k => ok k ∧ k < w.heap.size) v l0 ∧ Below w.heap.size w w' := by
  have hF := Kd.F_bound hf
  clear hf
  have hnil := Lib.run_eql_slice_nil (P := Try.prog)
  cases A0 with
  | none =>
    have h0 := C_none (Kd.F_now hF)
    subst h0
    go_enter Try.func61, Try.ntmps61
    go_wp2
    go_ret
    exact ⟨_, rfl, O_nil _ _ _ _ _, Below.refl _ _⟩
  | some a =>
    rcases Nat.eq_zero_or_pos l0.length with h0 | h0
    · obtain rfl := List.eq_nil_of_length_eq_zero h0
      clear h0 hlen
      go_enter Try.func61, Try.ntmps61
      go_wp2_with (at_builtin; refine wpList_append_nothing rfl _ _ 23 rfl Try.underlying23 info5 (some ⟨w.heap.size, 0, none⟩) 0 0 a c0 rfl rfl ?_)
      go_ret
      exact ⟨_, rfl, ⟨[], own_empty _ _ _, Reps.none _ _⟩, (Below.refl _ _).alloc (Nat.le_refl _) _⟩
    · obtain ⟨ad, cs, e1, hreps, hcs⟩ := row_cells (Kd.F_rows hF) h0
      cases e1
      obtain ⟨i0, hi, hz0, hz1, hz2⟩ := info_parts info5
      have hl := hreps.1
      have hone := Kd.reps_one hreps (by decide) (fun _ _ hx => (FK_one hx).2)
      have HR := Aside0.mk hreps
      have HC := Aside0.mk hcs
      have HI := Aside0.mk hi
      have HZ0 := Aside0.mk hz0
      have HZ1 := Aside0.mk hz1
      have HZ2 := Aside0.mk hz2
      have HL := Aside0.mk hl
      have H1 := Aside0.mk hone
      clear hreps hcs hi hz0 hz1 hz2 hl hone hF
      go_enter Try.func61, Try.ntmps61
      go_wp2_with (at_builtin; refine wpList_append_grows _ rfl _ _ 23 rfl 5 i0 _ 1 1 Try.underlying23 HI.out HZ0.out HZ1.out HZ2.out rfl (by decide) (some ⟨w.heap.size, 0, none⟩) 0 0 [] rfl (fun h => by cases h) rfl (fun _ _ j u hu => by simp at hu) a l0.length c0 cs rfl HL.out ?ce H1.out (by omega) (by unfold maxLen; omega) (by omega) ?kk; (case ce => intro j u hu; exact cell_later (HC.out j u hu)); intro v' w1 hown hgrow; have HO := Aside0.mk hown; have HG := Aside0.mk hgrow; clear hown hgrow)
      go_ret
      have hb1 : Below w.heap.size w w1 := (((Below.refl _ _).alloc (Nat.le_refl _) _).grown HG.out (by simp) (fun k hk => by cases hk))
      have hown := HO.out
      rw [Nat.zero_add, List.nil_append] at hown
      refine ⟨_, rfl, ⟨cs, own_weaken hown (by simp), HR.out.imp_ fun x c hx => ?_⟩, hb1⟩
      refine Kd.FK_mono (Kd.FK_step (Kd.FK_bound hx) (fun k hk hlt => hb1.block k hlt)) (fun k hk => ⟨hk.1, fun he => ?_⟩)
      have h1 := own_base hown k he.symm
      have h2 := hk.2
      rw [World.size_alloc] at h1
      omega

end Go.Proofs.Ytcgeioingikeeaa.P
namespace Go.Proofs.Ytcgeioingikeeaa.P
open Go.RowKit Go.Proofs.YtcgeioingikeeaaW.PrintWords Go.Proofs.YtcgeioingikeeaaW.PrintLast Go.Proofs.YtcgeioingikeeaaW.PrintMore
set_option linter.unusedVariables false
set_option linter.unusedSimpArgs false

theorem O_open {α : Type} {d : Kd α} {e : Nat} {w : World} {base : Nat} {ok : Nat → Prop} {v : Value} {xs : List α} (h : O d e w base ok v xs) (hp : 0 < xs.length) :
    ∃ g cap cur, v = .slice (some ⟨g, 0, none⟩) xs.length cap ∧ base ≤ g ∧ g < w.heap.size ∧ w.heap[g]? = some (.cells cur e (0, 0)) ∧ xs.length ≤ cap ∧ cap ≤ maxLen ∧ cur.size = cap * d.sz ∧
      Reps (fun x c => Kd.FK d w (fun k => ok k ∧ k ≠ g) x c) d.sz xs (cur.toList.take (xs.length * d.sz)) := by
  obtain ⟨inner, ⟨hl, h2⟩, hr⟩ := h
  rcases h2 with ⟨_, h0⟩ | ⟨g, cap, cur, rfl, hg, hh, h3, h4, h5, h6⟩
  · omega
  · refine ⟨g, cap, cur, rfl, hg, (Array.getElem?_eq_some_iff.1 hh).1, hh, h3, h4, h5, ?_⟩
    rw [h6]
    exact hr.imp_ fun x c hx => Kd.FK_mono hx fun k hk => ⟨hk.1, fun he => hk.2 (by subst he; rfl)⟩
theorem O_mk {α : Type} {d : Kd α} {e : Nat} {w : World} {base : Nat} {ok : Nat → Prop} {xs : List α} {g cap : Nat} {cur : Array Value} (hg : base ≤ g) (hh : w.heap[g]? = some (.cells cur e (0, 0))) (h3 : xs.length ≤ cap) (h4 : cap ≤ maxLen) (h5 : cur.size = cap * d.sz)
    (hr : Reps (fun x c => Kd.FK d w (fun k => ok k ∧ k ≠ g) x c) d.sz xs (cur.toList.take (xs.length * d.sz))) : O d e w base ok (.slice (some ⟨g, 0, none⟩) xs.length cap) xs :=
  ⟨_, ⟨hr.1, .inr ⟨g, cap, cur, rfl, hg, hh, h3, h4, h5, rfl⟩⟩, hr.imp_ fun x c hx => Kd.FK_mono hx fun k hk => ⟨hk.1, fun he => hk.2 (by injection he)⟩⟩
/-- Its first ones, by the same address. -/
theorem O_take {α : Type} {d : Kd α} {e : Nat} {w : World} {base : Nat} {ok : Nat → Prop} {xs : List α} {g cap n : Nat} (h : O d e w base ok (.slice (some ⟨g, 0, none⟩) n cap) xs) (hp : 0 < xs.length) (m : Nat) (hm : m ≤ xs.length) : O d e w base ok (.slice (some ⟨g, 0, none⟩) m cap) (xs.take m) := by
  obtain ⟨g', cap', cur, he, hg, _, hh, h3, h4, h5, hr⟩ := O_open h hp
  injection he with he1 he2 he3
  injection he1 with he1
  injection he1 with he1
  subst he1 he3
  have hl : (xs.take m).length = m := by rw [List.length_take]; omega
  have := O_mk (ok := ok) (xs := xs.take m) (cap := cap) hg hh (by omega) h4 h5 (by
    have := Kd.reps_take hr hm
    rw [List.take_take, Nat.min_eq_left (Nat.mul_le_mul_right _ hm)] at this
    rw [hl]
    exact this)
  rwa [hl] at this
theorem splice_take {β : Type} (cs seg : List β) {a T : Nat} (h1 : a + seg.length ≤ T) (h2 : T ≤ cs.length) : (cs.take T).take a ++ seg ++ (cs.take T).drop (a + seg.length) = (cs.take a ++ seg ++ cs.drop (a + seg.length)).take T := by
  rw [List.take_take, Nat.min_eq_left (by omega), List.append_assoc, List.append_assoc, List.take_append, List.take_append, List.length_take, Nat.min_eq_left (by omega : a ≤ cs.length),
    List.take_of_length_le (l := cs.take a) (by rw [List.length_take]; omega), List.take_of_length_le (l := seg) (by omega), List.drop_take]
  congr 3
  omega
/-- One of its elements is written. -/
theorem O_set {α : Type} {d : Kd α} {e : Nat} {w w1 : World} {base : Nat} {ok : Nat → Prop} {xs : List α} {g cap n : Nat} (h : O d e w base ok (.slice (some ⟨g, 0, none⟩) n cap) xs) (i : Nat) (hi : i < xs.length) (x : α) (seg : List Value) (cur : Array Value) (hc : w.heap[g]? = some (.cells cur e (0, 0)))
    (hx : Kd.FK d w (fun k => ok k ∧ k ≠ g) x seg) (h1 : w1.heap[g]? = some (.cells (cur.toList.take (i * d.sz) ++ seg ++ cur.toList.drop (i * d.sz + seg.length)).toArray e (0, 0))) (hs : ∀ k, k < w.heap.size → k ≠ g → w1.heap[k]? = w.heap[k]?) :
    O d e w1 base ok (.slice (some ⟨g, 0, none⟩) n cap) (xs.set i x) := by
  have hp : 0 < xs.length := by omega
  obtain ⟨g', cap', cur', he, hg, _, hh, h3, h4, h5, hr⟩ := O_open h hp
  injection he with he1 he2 he3
  injection he1 with he1
  injection he1 with he1
  subst he1 he3
  rw [hc] at hh
  injection hh with hh
  injection hh with hh
  subst hh
  have hsl : seg.length = d.sz := (FK_one hx).1
  have hroom : (i + 1) * d.sz ≤ xs.length * d.sz := Nat.mul_le_mul_right _ hi
  have hroom2 : xs.length * d.sz ≤ cap * d.sz := Nat.mul_le_mul_right _ h3
  rw [Nat.add_mul, Nat.one_mul] at hroom
  have hcl : cur.toList.length = cap * d.sz := by rw [Array.length_toList]; exact h5
  have := O_mk (d := d) (ok := ok) (w := w1) (xs := xs.set i x) (cap := cap) hg h1 (by simpa using h3) h4 (by
    simp only [List.size_toArray, List.length_append, List.length_take, List.length_drop]; omega) (by
    have hr' := Kd.reps_set hr hi hx hsl
    have hr2 := hr'.imp_ (R' := fun x c => Kd.FK d w1 (fun k => ok k ∧ k ≠ g) x c) fun y c hy => Kd.FK_mono (Kd.FK_step (Kd.FK_bound hy) fun k hk hlt => hs k hlt hk.1.2) fun k hk => hk.1
    rw [List.length_set]
    rw [splice_take cur.toList seg (by omega) (by omega)] at hr2
    exact hr2)
  rw [List.length_set] at this
  rw [he2]
  exact this
end Go.Proofs.Ytcgeioingikeeaa.P
namespace Go.Proofs.Ytcgeioingikeeaa.P
open Go.RowKit Go.Proofs.YtcgeioingikeeaaW.PrintWords Go.Proofs.YtcgeioingikeeaaW.PrintLast Go.Proofs.YtcgeioingikeeaaW.PrintMore
set_option linter.unusedVariables false
set_option linter.unusedSimpArgs false

theorem set2 (cur : Array Value) (a : Nat) (u v : Value) (h : a + 2 ≤ cur.size) : (cur.setIfInBounds a u).setIfInBounds (a + 1) v = (cur.toList.take a ++ [u, v] ++ cur.toList.drop (a + [u, v].length)).toArray := by
  apply Array.ext'
  simp only [Array.toList_setIfInBounds]
  apply List.ext_getElem?
  intro k
  simp only [List.getElem?_set, List.length_set, Array.length_toList, List.append_assoc, List.getElem?_append, List.length_take, List.length_cons, List.length_nil, List.getElem?_take, List.getElem?_drop]
  rw [Nat.min_eq_left (by omega : a ≤ cur.size)]
  by_cases h1 : k < a
  · simp [h1, show ¬ a + 1 = k by omega, show ¬ a = k by omega]
  · by_cases h2 : k = a
    · subst h2; simp [show k < cur.size by omega]
    · by_cases h3 : k = a + 1
      · subst h3; simp [show a + 1 < cur.size by omega, show ¬ a + 1 < a by omega]
      · simp [h1, show ¬ a + 1 = k by omega, show ¬ a = k by omega, show ¬ k - a < 2 by omega, show a + 2 + (k - a - 2) = k by omega]

theorem O_at38 {w : World} {base : Nat} {ok : Nat → Prop} {xs : List S38} {g cap n : Nat} (h : O k38 38 w base ok (.slice (some ⟨g, 0, none⟩) n cap) xs) (j : Nat) (hj : j < xs.length) :
    ∃ A1 c1, w.cell? ⟨g, j * 2, none⟩ = some (.string (xs.getD j z38).f0) ∧ w.cell? ⟨g, j * 2 + 1, none⟩ = some (.slice A1 (xs.getD j z38).f1.length c1) ∧ Kd.FK k38 w (fun k => ok k ∧ k ≠ g) (xs.getD j z38) [.string (xs.getD j z38).f0, .slice A1 (xs.getD j z38).f1.length c1] := by
  obtain ⟨g', cap', cur, he, hg, _, hh, h3, h4, h5, hr⟩ := O_open h (by omega)
  injection he with he1 he2 he3
  injection he1 with he1
  injection he1 with he1
  subst he1
  have hx := hr.2 j _ (List.getElem?_eq_getElem hj)
  have hxe : xs.getD j z38 = xs[j] := by rw [List.getD_eq_getElem?_getD, List.getElem?_eq_getElem hj]; rfl
  rw [hxe]
  obtain ⟨A1, c1, he, _, _⟩ := k38_open (Kd.FK_now hx)
  have hb : j * 2 + 2 ≤ xs.length * 2 := by omega
  have hsz : cur.size = cap' * 2 := h5
  have hsz2 : k38.sz = 2 := rfl
  rw [hsz2] at he hx
  refine ⟨A1, c1, ?_, ?_, by rw [← he]; exact hx⟩
  · have := congrArg (fun l => l[0]?) he
    simp only [List.getElem?_take, List.getElem?_drop, List.getElem?_cons_zero] at this
    rw [if_pos (by omega), Nat.add_zero, if_pos (by omega)] at this
    rw [cell_of_row w g _ cur 38 (0, 0) hh]
    simpa using this
  · have := congrArg (fun l => l[1]?) he
    simp only [List.getElem?_take, List.getElem?_drop, List.getElem?_cons_succ, List.getElem?_cons_zero] at this
    rw [if_pos (by omega), if_pos (by omega)] at this
    rw [cell_of_row w g _ cur 38 (0, 0) hh]
    simpa using this

/-- What the loop of DeleteFunc keeps: of the first j those that stay stand at the front. -/
def DelInv (p : S38 → Bool) (l : List S38) (i j : Nat) (xs : List S38) : Prop := xs.take i = (l.take j).filter (fun x => !p x) ∧ xs.drop j = l.drop j
theorem del_start {p : S38 → Bool} {l : List S38} {i0 : Nat} {h : i0 < l.length} (hp : p l[i0] = true) (hn : ∀ (j : Nat) (hji : j < i0), ¬p (l[j]'(by omega)) = true) (_ : i0 < l.length) : DelInv p l i0 (i0 + 1) l := by
  refine ⟨?_, rfl⟩
  rw [List.take_succ_eq_append_getElem h, List.filter_append]
  have h1 : (l.take i0).filter (fun x => !p x) = l.take i0 := by
    rw [List.filter_eq_self]
    intro x hx
    obtain ⟨j, hj, rfl⟩ := List.mem_iff_getElem.1 hx
    rw [List.length_take] at hj
    have := hn j (by omega)
    simp at this
    simp [this]
  rw [h1]
  simp [hp]
theorem del_at {p : S38 → Bool} {l xs : List S38} {i j : Nat} (h : DelInv p l i j xs) (hj : j < l.length) : xs.getD j z38 = l.getD j z38 := by
  have := congrArg (fun l => l.head?) h.2
  simp only [List.head?_drop] at this
  rw [List.getD_eq_getElem?_getD, List.getD_eq_getElem?_getD, this]
theorem del_skip {p : S38 → Bool} {l xs : List S38} {i j : Nat} (h : DelInv p l i j xs) (hj : j < l.length) (hp : p (l.getD j z38) = true) : DelInv p l i (j + 1) xs := by
  have he : l.getD j z38 = l[j] := by rw [List.getD_eq_getElem?_getD, List.getElem?_eq_getElem hj]; rfl
  rw [he] at hp
  refine ⟨?_, by rw [← List.drop_drop, h.2, List.drop_drop]⟩
  rw [h.1, List.take_succ_eq_append_getElem hj, List.filter_append]
  simp [hp]
theorem del_keep {p : S38 → Bool} {l xs : List S38} {i j : Nat} (h : DelInv p l i j xs) (hij : i < j) (hj : j < l.length) (hl : xs.length = l.length) (hp : p (l.getD j z38) = false) : DelInv p l (i + 1) (j + 1) (xs.set i (l.getD j z38)) := by
  have he : l.getD j z38 = l[j] := by rw [List.getD_eq_getElem?_getD, List.getElem?_eq_getElem hj]; rfl
  rw [he] at hp ⊢
  refine ⟨?_, ?_⟩
  · rw [List.take_succ_eq_append_getElem hj, List.filter_append, ← h.1]
    rw [List.take_succ_eq_append_getElem (by rw [List.length_set]; omega), List.take_set_of_le (Nat.le_refl _)]
    simp [hp]
  · rw [List.drop_set_of_lt (by omega), ← List.drop_drop, h.2, List.drop_drop]
theorem O_block {α : Type} {d : Kd α} {e : Nat} {w : World} {base : Nat} {ok : Nat → Prop} {xs : List α} {g cap n : Nat} (h : O d e w base ok (.slice (some ⟨g, 0, none⟩) n cap) xs) : ∃ cur, w.heap[g]? = some (.cells cur e (0, 0)) := by
  obtain ⟨_, h1, _⟩ := h
  exact own_typed h1 g rfl
theorem cell_new (w : World) (cs : Array Value) (t : TypeId) (k : Nat) (u : Value) (h : cs[k]? = some u) : (w.alloc (.cells cs t (0, 0))).cell? ⟨w.heap.size, k, none⟩ = some u := by
  rw [cell_of_row _ _ _ cs t (0, 0) (heap_alloc_new _ _)]; exact h
theorem blk_stays {w w1 : World} {g : Nat} {o : Obj} (hb : Below w.heap.size w w1) (h : w.heap[g]? = some o) : w1.heap[g]? = some o := (hb.block g (blk_lt h)).trans h
theorem grownBy.trans_below {w w1 w2 : World} {row : Option Nat} (h : w.grownBy w1 row) (hb : Below w1.heap.size w1 w2) : w.grownBy w2 row :=
  ⟨hb.os.trans h.os, hb.tape.trans h.tape, hb.output.trans h.output, Nat.le_trans h.size hb.size, fun k hk hr => (hb.block k (Nat.lt_of_lt_of_le hk h.size)).trans (h.block k hk hr)⟩
theorem grownBy.setCell_row {w w1 : World} {g : Nat} (h : w.grownBy w1 (some g)) (j : Nat) (u : Value) : w.grownBy (w1.setCell ⟨g, j, none⟩ u) (some g) :=
  ⟨h.os, h.tape, h.output, by simpa [World.setCell] using h.size, fun k hk hr => (Below.heap_setCell _ _ _ _ (fun he => hr (by rw [he]))).trans (h.block k hk hr)⟩
theorem del_end {p : S38 → Bool} {l xs : List S38} {i j : Nat} (h : DelInv p l i j xs) (hj : l.length ≤ j) : xs.take i = l.filter (fun x => !p x) := by
  rw [h.1, List.take_of_length_le hj]
theorem setCells_row {g : Nat} {t : TypeId} : ∀ (vs : List Value) (o : Nat) (w : World) (cur : Array Value), w.heap[g]? = some (.cells cur t (0, 0)) →
    ∃ cur', (w.setCells g o vs).heap[g]? = some (.cells cur' t (0, 0)) ∧ cur'.size = cur.size ∧ cur'.toList.take o = cur.toList.take o ∧ w.grownBy (w.setCells g o vs) (some g)
  | [], o, w, cur, h => ⟨cur, h, rfl, rfl, ⟨rfl, rfl, rfl, Nat.le_refl _, fun _ _ _ => rfl⟩⟩
  | v :: vs, o, w, cur, h => by
    obtain ⟨cur', h1, h2, h3, h4⟩ := setCells_row vs (o + 1) (w.setCell ⟨g, o, none⟩ v) (cur.setIfInBounds o v) (blk_set h o v)
    refine ⟨cur', h1, by rw [h2]; simp, ?_, ?_⟩
    · have := congrArg (List.take o) h3
      rw [List.take_take, List.take_take, Nat.min_eq_left (by omega)] at this
      rw [this]
      simp [List.take_set_of_le]
    · have hg := grownBy.setCell_row (w := w) (w1 := w) (g := g) ⟨rfl, rfl, rfl, Nat.le_refl _, fun _ _ _ => rfl⟩ o v
      exact ⟨h4.os.trans hg.os, h4.tape.trans hg.tape, h4.output.trans hg.output, Nat.le_trans hg.size h4.size, fun k hk hr => (h4.block k (Nat.lt_of_lt_of_le hk hg.size) hr).trans (hg.block k hk hr)⟩

theorem zeroCells_one {z : Array Value} {n : Nat} (h : ∀ u ∈ z, u.oneCell' = true) : ∀ u ∈ (Builtin.zeroCells z n).toList, u.oneCell' = true := by
  intro u hu
  simp only [Builtin.zeroCells, Array.toList_map, List.mem_map] at hu
  obtain ⟨i, hi, rfl⟩ := hu
  rcases Nat.eq_zero_or_pos z.size with h0 | h0
  · simp [h0] at hi
  · rw [getElem!_pos z (i % z.size) (Nat.mod_lt _ h0)]
    exact h _ (Array.getElem_mem _)

/-- 'clear(s)' on a row of the call's own. -/
theorem wpList_clear_row {P : Program} {w : World} {ops : Array Oper} {rest : List Oper} {o : Oper} {a : Act} {Q : Exit → Act → World → Prop} (hgd : o.guard = none) (s : Operand) (t : TypeId)
    (ho : o.op = .call { callee := .builtin .clear, args := #[s], argTypes := #[t] }) {e : TypeId} {z : Value} (ht : P.underlying t = some (.slice e)) (hz : ∀ w, (zeroValue e).run P w = .ok z w) (h1 : ∀ u ∈ z.cells, u.oneCell' = true)
    (g off n c : Nat) (hs : a.eval s = .slice (some ⟨g, off, none⟩) n c) (hn : 0 < n) {cur : Array Value} {tt : TypeId} (hg : w.heap[g]? = some (.cells cur tt (0, 0))) (hfit : off + n * z.cells.size ≤ cur.size)
    (h : ∀ w' cur', w'.heap[g]? = some (.cells cur' tt (0, 0)) → cur'.size = cur.size → cur'.toList.take off = cur.toList.take off → w.grownBy w' (some g) → wpList P ops Q rest (a.put o.dst (.tuple #[])) w') : wpList P ops Q (o :: rest) a w := by
  refine wpList_plain hgd fun K hK => ?_
  have hst := run_storeCells_cells (P := P) g off (Builtin.zeroCells z.cells n).toList 0 w
    (by intro j hj; rw [Array.length_toList, size_zeroCells] at hj; rw [cell_of_row w g _ cur tt (0, 0) hg, Array.getElem?_eq_getElem (by omega)]; rfl)
    (by intro j _; exact blk_frozen hg _) (zeroCells_one h1)
  simp only [Nat.add_zero] at hst
  obtain ⟨cur', r1, r2, r3, r4⟩ := setCells_row (Builtin.zeroCells z.cells n).toList off w cur hg
  obtain ⟨m, rfl⟩ : ∃ m, n = m + 1 := ⟨n - 1, by omega⟩
  have hrun : (Builtin.clear_ #[t] o.type #[.slice (some ⟨g, off, none⟩) (m + 1) c]).run P w = .ok (.tuple #[]) (w.setCells g off (Builtin.zeroCells z.cells (m + 1)).toList) := by
    simp [Builtin.clear_, run_underlying ht, hz, hst]
  unfold Oper.wp
  simp [execOp, ho, resolve, invoke, builtin, hs, hrun, Result.andThen]
  exact hK _ _ (h _ cur' r1 r2 r3 r4)

theorem zero38 (w : World) : (zeroValue 38).run Try.prog w = .ok (.agg #[.string ⟨#[]⟩, .slice none 0 0]) w := by kernel_rfl

set_option maxHeartbeats 4000000 in
set_option maxRecDepth 100000 in
theorem deleteF_is (ok : Nat → Prop) (B : Nat) (name : ByteArray) (v : Value) (l : List S38) (w : World) (ho : O k38 38 w B ok v l) (hB : B ≤ w.heap.size) (hlen : l.length ≤ 1000001) :
    Calls Try.prog 62 #[v, .func (.func 63) #[.string name] #[]] w fun e w' => ∃ v', e = .returned v' ∧ O k38 38 w' B ok v' (l.filter fun x => !named name x) ∧ w.grownBy w' v.ownBlock ∧ v'.ownBlock = v.ownBlock := by
  have HO := Aside0.mk ho
  have hV := O_V ho
  obtain ⟨A, c, rfl⟩ := O_slice ho
  have hC := (Kd.V_reads' hV).2.2
  have hIdx := indexFunc_is name A c l w hC
  clear hV ho
  rcases hfi : l.findIdx? (named name) with _ | i0
  · have hid : idxOf (named name) l = -1 := by unfold idxOf; rw [hfi]
    have hfl : (l.filter fun x => !named name x) = l := by
      rw [List.filter_eq_self]
      intro x hx
      have := List.findIdx?_eq_none_iff.1 hfi x hx
      simp [this]
    rw [hid] at hIdx
    have HF := Aside0.mk hfl
    clear hid hfl hfi hC
    go_enter Try.func62, Try.ntmps62
    go_wp2_with (go_at_call 58; refine hIdx.mono ?_; rintro e w1 ⟨rfl, hb⟩; have HB := Aside0.mk hb; clear hb)
    go_ret
    exact ⟨_, rfl, by rw [HF.out]; exact O_below HO.out HB.out, grown_of_below HB.out _, rfl⟩
  · have hid : idxOf (named name) l = (i0 : Int) := by unfold idxOf; rw [hfi]
    rw [hid] at hIdx
    obtain ⟨hi0, hp0, hn0⟩ := List.findIdx?_eq_some_iff_getElem.1 hfi
    clear hid hfi hC
    obtain ⟨g, cap, cur0, he, hg, hgs, _, h30, h40, _, _⟩ := O_open HO.out (by omega)
    injection he with he1 _ he3
    subst he1 he3
    have HN := Aside0.mk hn0
    have HP0 := Aside0.mk hp0
    clear hn0 hp0
    have hne : ((i0 : Int) == -1) = false := by simp
    go_enter Try.func62, Try.ntmps62
    go_wp2_with (go_at_call 58; refine hIdx.mono ?_; rintro e w1 ⟨rfl, hb⟩; have HB := Aside0.mk hb; clear hb)
    have hstart := Aside0.mk (del_start HP0.out HN.out hi0)
    clear hne
    go_loopg [5, 6] l.length (fun kq v5 v6 w' => ∃ (i j : Nat) (xs : List S38), v5 = .int .i64 i ∧ v6 = .int .i64 j ∧ l.length < j + kq ∧ i < j ∧ j ≤ l.length ∧ xs.length = l.length ∧ Aside0 (DelInv (named name) l i j xs) ∧ Aside0 (O k38 38 w' B ok (.slice (some ⟨g, 0, none⟩) l.length c) xs) ∧ Aside0 (w.grownBy w' (some g)) ∧ Aside0 (B ≤ w'.heap.size))
    case atStart => exact ⟨i0, i0 + 1, l, rfl, by go_num, by omega, by omega, by omega, rfl, hstart, ⟨O_below HO.out HB.out⟩, ⟨grown_of_below HB.out _⟩, ⟨Nat.le_trans hB HB.out.size⟩⟩
    case round =>
      obtain ⟨i, j, xs, rfl, rfl, hjk, hij, hjl, hxl, HI, HO1, HG, HBs⟩ := hrel
      by_cases hlt : j < l.length
      · obtain ⟨A1, c1, hx0, hx1, hfk⟩ := O_at38 HO1.out j (by omega)
        obtain ⟨A2, c2, hy0, hy1, _⟩ := O_at38 HO1.out i (by omega)
        have HX := Aside0.mk (del_at HI.out hlt)
        obtain ⟨x, hxe⟩ : ∃ x, xs.getD j z38 = x := ⟨_, rfl⟩
        obtain ⟨y, hye⟩ : ∃ y, xs.getD i z38 = y := ⟨_, rfl⟩
        rw [hxe] at hx0 hx1 hfk HX
        rw [hye] at hy0 hy1
        clear hxe hye
        obtain ⟨k1, rfl⟩ : ∃ k1, gk = k1 + 1 := ⟨gk - 1, by omega⟩
        obtain ⟨cur, hh⟩ := O_block HO1.out
        have hfz : ∀ k, wr.frozen? ⟨g, k, none⟩ = false := blk_frozen hh
        have HH := Aside0.mk hh
        have HFK := Aside0.mk hfk
        clear hh hfk
        cases hp : named name x
        · have hp' : (x.f0.toList == name.toList) = false := hp
          have HP := Aside0.mk hp
          clear hp
          go_wp2_with (go_at_call 63; refine (named_is name _ _ _).mono ?_; rintro e w2 ⟨rfl, hb⟩; rw [hp']; have hz0 := pw_cell_below hb (cell_later hy0); have hz1 := pw_cell_below hb (cell_later hy1); have hb0 := pw_cell_below hb (cell_new wr _ 38 0 _ rfl); have hb1 := pw_cell_below hb (cell_new wr _ 38 1 _ rfl); have hh2 := blk_stays hb (blk_alloc HH.out _); have hf0 := blk_frozen hh2 (i * 2); have hf1 := blk_frozen hh2 (i * 2 + 1); have HB2 := Aside0.mk hb; have HH2 := Aside0.mk hh2; clear hb hh2 hy0 hy1 hx0 hx1 hfz hp')
          go_roundg k1
          case measure => omega
          case rel =>
            have hb' : Below wr.heap.size wr w2 := below_step (below_alloc (Below.refl _ _) _) HB2.out
            have hgr : g < wr.heap.size := blk_lt HH.out
            have hbig : (i + 1) * 2 ≤ cur.size := by
              obtain ⟨g', cap', cur', he, _, _, hh', h3, _, h5, _⟩ := O_open HO1.out (by omega)
              injection he with he1 he2 he3
              injection he1 with he1
              injection he1 with he1
              subst he1
              rw [HH.out] at hh'
              injection hh' with hh'
              injection hh' with hh'
              subst hh'
              rw [h5]
              exact Nat.mul_le_mul_right 2 (by omega)
            refine ⟨i + 1, j + 1, xs.set i x, by go_num, by go_num, by omega, by omega, by omega, by rw [List.length_set]; exact hxl, ⟨?_⟩, ⟨?_⟩, ⟨?_⟩, ⟨?_⟩⟩
            · rw [HX.out]
              exact del_keep HI.out hij hlt hxl (by rw [← HX.out]; exact HP.out)
            · refine O_set (O_below HO1.out hb') i (by omega) x _ cur HH2.out (Kd.FK_below HFK.out hb') ?_ ?_
              · have := blk_set (blk_set HH2.out (i * 2) (.string x.f0)) (i * 2 + 1) (.slice A1 x.f1.length c1)
                rw [set2 _ _ _ _ (by omega)] at this
                exact this
              · intro k _ hk
                rw [Below.heap_setCell _ _ _ _ hk, Below.heap_setCell _ _ _ _ hk]
            · exact grownBy.setCell_row (grownBy.setCell_row (grownBy.trans_below HG.out hb') _ _) _ _
            · have := HBs.out; have := hb'.size; simp only [World.setCell, Array.size_modify]; omega
        · have hp' : (x.f0.toList == name.toList) = true := hp
          have HP := Aside0.mk hp
          clear hp
          go_wp2_with (go_at_call 63; refine (named_is name _ _ _).mono ?_; rintro e w2 ⟨rfl, hb⟩; rw [hp']; have HB2 := Aside0.mk hb; clear hb hy0 hy1 hx0 hx1 hfz hp')
          go_roundg k1
          case measure => omega
          case rel =>
            have hb' : Below wr.heap.size wr w2 := below_step (below_alloc (Below.refl _ _) _) HB2.out
            exact ⟨i, j + 1, xs, rfl, by go_num, by omega, by omega, by omega, hxl, ⟨del_skip HI.out hlt (by rw [← HX.out]; exact HP.out)⟩, ⟨O_below HO1.out hb'⟩, ⟨grownBy.trans_below HG.out hb'⟩, ⟨Nat.le_trans HBs.out hb'.size⟩⟩
      · have hge : l.length ≤ j := by omega
        clear hlt
        obtain ⟨cur, hh⟩ := O_block HO1.out
        have HH := Aside0.mk hh
        clear hh
        have hci : (c == i) = false := by simp; omega
        have hfit : i * 2 + (l.length - i) * 2 ≤ cur.size := by
          obtain ⟨g', cap', cur', he, _, _, hh', h3, _, h5, _⟩ := O_open HO1.out (by omega)
          injection he with he1 he2 he3
          injection he1 with he1
          injection he1 with he1
          subst he1
          rw [HH.out] at hh'
          injection hh' with hh'
          injection hh' with hh'
          subst hh'
          rw [h5, show k38.sz = 2 from rfl]
          omega
        have HFIT := Aside0.mk hfit
        clear hfit
        go_wp2_with (refine wpList_clear_row rfl (.tmp 38) 22 rfl Try.underlying22 zero38 (by intro u hu; simp [Value.cells] at hu; rcases hu with rfl | rfl <;> rfl) g (i * 2) (l.length - i) (c - i) rfl (by omega) HH.out (by have := HFIT.out; simpa [Value.cells] using this) ?_; intro w2 cur2 h1 h2 h3 h4; have K1 := Aside0.mk h1; have K2 := Aside0.mk h2; have K3 := Aside0.mk h3; have K4 := Aside0.mk h4; clear h1 h2 h3 h4)
        go_ret
        have hfl := del_end HI.out hge
        refine ⟨_, rfl, ?_, ⟨K4.out.os.trans HG.out.os, K4.out.tape.trans HG.out.tape, K4.out.output.trans HG.out.output, Nat.le_trans HG.out.size K4.out.size, fun k hk hr => (K4.out.block k (Nat.lt_of_lt_of_le hk HG.out.size) hr).trans (HG.out.block k hk hr)⟩, rfl⟩
        rw [← hfl]
        obtain ⟨g', cap', cur', he, hg', _, hh', h3, h4, h5, hr⟩ := O_open HO1.out (by omega)
        injection he with he1 he2 he3
        injection he1 with he1
        injection he1 with he1
        subst he1 he3
        rw [HH.out] at hh'
        injection hh' with hh'
        injection hh' with hh'
        subst hh'
        have hl2 : (xs.take i).length = i := by rw [List.length_take]; omega
        have := O_mk (d := k38) (ok := ok) (xs := xs.take i) (cap := c) hg' K1.out (by omega) h4 (by rw [K2.out]; exact h5) (by
          have hr2 := (Kd.reps_take hr (m := i) (by omega)).imp_ (R' := fun x c => Kd.FK k38 w2 (fun k => ok k ∧ k ≠ g) x c) fun y c hy => Kd.FK_grown hy K4.out fun k hk he => hk.2 (by injection he)
          rw [List.take_take, Nat.min_eq_left (Nat.mul_le_mul_right _ (by omega))] at hr2
          rw [hl2, show i * k38.sz = i * 2 from rfl, K3.out]
          exact hr2)
        rw [hl2] at this
        exact this
end Go.Proofs.Ytcgeioingikeeaa.P
namespace Go.Proofs.Ytcgeioingikeeaa.P
open Go.RowKit Go.Proofs.YtcgeioingikeeaaW.PrintWords Go.Proofs.YtcgeioingikeeaaW.PrintLast Go.Proofs.YtcgeioingikeeaaW.PrintMore
set_option linter.unusedVariables false
set_option linter.unusedSimpArgs false

/-- 'copy(d, s)' into a row that is known whole, elements of any size. -/
theorem run_copy_blk {P : Program} (w : World) (dT sT ty elem : TypeId) (g off dLen dCap : Nat) (a : Addr) (sLen sCap sz : Nat) (cur : Array Value) (t : TypeId) (cs : List Value)
    (hu : P.underlying dT = some (.slice elem)) (hs : (P.info? elem).map (·.size) = some sz)
    (hg : w.heap[g]? = some (.cells cur t (0, 0))) (hn : cs.length = Nat.min sLen dLen * sz)
    (hsrc : ∀ j v, cs[j]? = some v → w.cell? (a.add j) = some v) (hfit : off + cs.length ≤ cur.size) (h1 : ∀ v ∈ cs, v.oneCell' = true) :
    (Builtin.copy_ #[dT, sT] ty #[.slice (some ⟨g, off, none⟩) dLen dCap, .slice (some a) sLen sCap]).run P w =
      .ok (goInt (Nat.min sLen dLen)) (w.setRow g (cur.toList.take off ++ cs ++ cur.toList.drop (off + cs.length)).toArray) := by
  have hl := run_loadCells_list (P := P) w a cs hsrc
  have hst := run_storeCells_at P g off t cs 0 cur w hg (by simpa using hfit) h1
  cases hq : P.info? elem with
  | none => simp [hq] at hs
  | some i =>
    have hi : i.size = sz := by simpa [hq] using hs
    simp [Builtin.copy_, run_underlying hu, Builtin.lenOf, Builtin.firstCells, sizeOf, typeInfo, hq, hi, ← hn, hl, hst]
theorem wpList_copy_run {P : Program} (w : World) {ops : Array Oper} {rest : List Oper} {o : Oper} {a : Act} {Q : Exit → Act → World → Prop} (hgd : o.guard = none) (d s : Operand) (t t' : TypeId)
    (ho : o.op = .call { callee := .builtin .copy, args := #[d, s], argTypes := #[t, t'] }) (v u : Value) (hd : a.eval d = v) (hs : a.eval s = u) {v' : Value} {w' : World}
    (hr : (Builtin.copy_ #[t, t'] o.type #[v, u]).run P w = .ok v' w') (h : wpList P ops Q rest (a.put o.dst v') w') : wpList P ops Q (o :: rest) a w :=
  wpList_plain hgd fun K hK => by
    unfold Oper.wp execOp
    simp only [ho, resolve, invoke, builtin, Sem.run_bind, Sem.run_pure, Result.andThen_ok, List.map_toArray, List.map_cons, List.map_nil, hd, hs, hr]
    exact hK _ _ h
theorem step_copy_run {P : Program} {ops : Array Oper} {o : Oper} {a : Act} {w : World} {K : Act → World → Prop} {Q : Exit → Act → World → Prop} {E : Prop}
    (hg : o.guard = none) (d x : Operand) (dT sT : TypeId) (hop : o.op = Op.call { callee := Callee.builtin Builtin.copy, args := #[d, x], argTypes := #[dT, sT] })
    (v u : Value) (hd : a.eval d = v) (hx : a.eval x = u) {v' : Value} {w' : World} (hr : (Builtin.copy_ #[dT, sT] o.type #[v, u]).run P w = .ok v' w') (hK : K (a.put o.dst v') w') :
    if Region.wanted o (yielded ops a.tmps) = true then Oper.wp P o a w K Q else E := by
  have hw : Region.wanted o (yielded ops a.tmps) = true := by simp [Region.wanted, hg]
  rw [if_pos hw]
  unfold Oper.wp
  simp [execOp, hop, resolve, invoke, builtin, hd, hx, hr, Result.andThen]
  exact hK

theorem O_put {α : Type} {R : α → List Value → Prop} {size : Nat} {xs : List α} {inner seg : List Value} {x : α} (h : Reps R size xs inner) (hx : R x seg) (hl : seg.length = size) : Reps R size (xs ++ [x]) (inner ++ seg) := h.snoc hx hl
theorem FK_after {α : Type} {d : Kd α} {w w1 : World} {ok : Nat → Prop} {v v1 : Value} {x : α} {c : List Value} (h : Kd.FK d w (fun k => ok k ∧ some k ≠ v.ownBlock) x c) (hg : w.grownBy w1 v.ownBlock) (hat : v1.ownBlock = v.ownBlock ∨ v1.ownBlock = some w.heap.size) :
    Kd.FK d w1 (fun k => ok k ∧ some k ≠ v1.ownBlock) x c := by
  refine Kd.FK_mono (Kd.FK_step (Kd.FK_bound h) fun k hk hlt => hg.block k hlt hk.1.2) fun k hk => ⟨hk.1.1, ?_⟩
  rcases hat with hat | hat
  · rw [hat]; exact hk.1.2
  · rw [hat]; intro he; injection he with he; have := hk.2; omega
theorem size38 : (Try.prog.info? 38).map (·.size) = some 2 := by kernel_rfl
theorem sizeOf38 (w : World) : (Go.sizeOf 38).run Try.prog w = .ok 2 w := by kernel_rfl

set_option maxHeartbeats 4000000 in
set_option maxRecDepth 100000 in
theorem insertF_end (ok : Nat → Prop) (B : Nat) (v : Value) (xs : List S38) (hb : Nat) (x : S38) (seg : List Value) (w : World) (ho : O k38 38 w B ok v xs) (hlen : xs.length ≤ 1000001) (hB : B ≤ w.heap.size)
    (hv : w.heap[hb]? = some (.cells seg.toArray 38 (0, 0))) (hx : Kd.FK k38 w (fun k => ok k ∧ some k ≠ v.ownBlock) x seg) :
    Calls Try.prog 60 #[v, .int .i64 xs.length, .slice (some ⟨hb, 0, none⟩) 1 1] w fun e w' => ∃ v', e = .returned v' ∧ O k38 38 w' B ok v' (xs ++ [x]) ∧ w.grownBy w' v.ownBlock := by
  obtain ⟨inner, hown, hr⟩ := ho
  obtain ⟨A, c, rfl⟩ := own_slice hown
  obtain ⟨i0, hi, hz0, hz1, hz2⟩ := info_parts info38
  have HI := Aside0.mk hi
  have HZ0 := Aside0.mk hz0
  have HZ1 := Aside0.mk hz1
  have HZ2 := Aside0.mk hz2
  have HO := Aside0.mk hown
  have HR := Aside0.mk hr
  have HX := Aside0.mk hx
  have HV := Aside0.mk hv
  have hsl := (FK_one hx).1
  have HSL := Aside0.mk hsl
  have H1 := Aside0.mk (FK_one hx).2
  clear hi hz0 hz1 hz2 hown hr hx hv hsl
  have hce : ∀ j u, seg[j]? = some u → w.cell? ((⟨hb, 0, none⟩ : Addr).add j) = some u := by
    intro j u hu; rw [add_plain, cell_of_row _ _ _ _ _ _ HV.out]; simpa using hu
  have HCE := Aside0.mk hce
  clear hce
  by_cases hc : c = xs.length
  · subst hc
    go_enter Try.func60, Try.ntmps60
    go_wp2_with (at_builtin; refine wpList_append_own_at _ rfl _ _ 22 rfl B 38 i0 _ 2 40 Try.underlying22 HI.out HZ0.out HZ1.out HZ2.out rfl (by decide) _ xs.length inner rfl HO.out ⟨hb, 0, none⟩ 1 1 seg rfl (by rw [HSL.out]; rfl) HCE.out H1.out (by unfold maxLen; omega) (by omega) hB ?_; intro v' w1 h1 h2 _ h4; have K1 : Aside0 (w1.ownsRow B 38 2 v' (xs.length + 1) (inner ++ seg)) := Aside0.mk h1; have K2 : Aside0 (w.grownBy w1 (Value.slice A xs.length xs.length).ownBlock) := Aside0.mk h2; have K4 : Aside0 (v'.ownBlock = (Value.slice A xs.length xs.length).ownBlock ∨ v'.ownBlock = some w.heap.size) := Aside0.mk h4; clear h1 h2 h4)
    go_ret
    refine ⟨_, rfl, ⟨inner ++ seg, by rw [List.length_append]; exact K1.out, ?_⟩, K2.out⟩
    refine O_put (HR.out.imp_ fun y c' hy => ?_) ?_ HSL.out
    · exact FK_after hy K2.out K4.out
    · exact FK_after HX.out K2.out K4.out
  · have hc' : (c == xs.length) = false := by simpa using hc
    go_enter Try.func60, Try.ntmps60
    go_wp2_with (at_builtin; refine wpList_append_own_at _ rfl _ _ 22 rfl B 38 i0 _ 2 40 Try.underlying22 HI.out HZ0.out HZ1.out HZ2.out rfl (by decide) _ xs.length inner rfl HO.out ⟨hb, 0, none⟩ 1 1 seg rfl (by rw [HSL.out]; rfl) HCE.out H1.out (by unfold maxLen; omega) (by omega) hB ?_; intro v' w1 h1 h2 _ h4; have K1 : Aside0 (w1.ownsRow B 38 2 v' (xs.length + 1) (inner ++ seg)) := Aside0.mk h1; have K2 : Aside0 (w.grownBy w1 (Value.slice A xs.length c).ownBlock) := Aside0.mk h2; have K4 : Aside0 (v'.ownBlock = (Value.slice A xs.length c).ownBlock ∨ v'.ownBlock = some w.heap.size) := Aside0.mk h4; clear h1 h2 h4)
    go_ret
    refine ⟨_, rfl, ⟨inner ++ seg, by rw [List.length_append]; exact K1.out, ?_⟩, K2.out⟩
    refine O_put (HR.out.imp_ fun y c' hy => ?_) ?_ HSL.out
    · exact FK_after hy K2.out K4.out
    · exact FK_after HX.out K2.out K4.out
theorem splice2 {β : Type} (L seg cs : List β) {a T : Nat} (hT : a + seg.length + cs.length = T) (hL : T ≤ L.length) :
    ((L.take a ++ seg ++ L.drop (a + seg.length)).take (a + seg.length) ++ cs ++ (L.take a ++ seg ++ L.drop (a + seg.length)).drop (a + seg.length + cs.length)).take T = L.take a ++ seg ++ cs := by
  have h1 : (L.take a ++ seg).length = a + seg.length := by rw [List.length_append, List.length_take]; omega
  have h4 : (L.take a ++ seg ++ L.drop (a + seg.length)).take (a + seg.length) = L.take a ++ seg := List.take_left' h1
  rw [h4, List.take_append_of_le_length (by simp only [List.length_append, List.length_take]; omega), List.take_of_length_le (by simp only [List.length_append, List.length_take]; omega)]
theorem splice3 {β : Type} (L seg cs : List β) {a T : Nat} (hT : a + seg.length + cs.length = T) (hL : T ≤ L.length) :
    ((L.take (a + seg.length) ++ cs ++ L.drop (a + seg.length + cs.length)).take a ++ seg ++ (L.take (a + seg.length) ++ cs ++ L.drop (a + seg.length + cs.length)).drop (a + seg.length)).take T = L.take a ++ seg ++ cs := by
  have h1 : (L.take (a + seg.length)).length = a + seg.length := by rw [List.length_take]; omega
  have h2 : (L.take (a + seg.length) ++ cs ++ L.drop (a + seg.length + cs.length)).take a = L.take a := by
    rw [List.append_assoc, List.take_append_of_le_length (by omega), List.take_take, Nat.min_eq_left (by omega)]
  have h3 : (L.take (a + seg.length) ++ cs ++ L.drop (a + seg.length + cs.length)).drop (a + seg.length) = cs ++ L.drop (a + seg.length + cs.length) := by
    rw [List.append_assoc, List.drop_left' h1]
  rw [h2, h3, ← List.append_assoc, List.take_append_of_le_length (by simp only [List.length_append, List.length_take]; omega), List.take_of_length_le (by simp only [List.length_append, List.length_take]; omega)]
/-- In the row's middle: what is told of its cells. -/
theorem reps_insert {α : Type} {R : α → List Value → Prop} {size : Nat} {xs : List α} {inner seg : List Value} {x : α} (h : Reps R size xs inner) (hx : R x seg) (hl : seg.length = size) (i : Nat) (hi : i ≤ xs.length) :
    Reps R size (xs.take i ++ x :: xs.drop i) (inner.take (i * size) ++ seg ++ inner.drop (i * size)) := by
  have h1 := (Kd.reps_take h hi).snoc hx hl
  have h2 := Kd.reps_append h1 (Kd.reps_drop (m := i) h)
  rwa [List.append_assoc, List.singleton_append] at h2

theorem overlaps_no (w : World) (hb g off la ca lb cb : Nat) (hne : hb ≠ g) (c1 c2 : Array Value) (h1 : w.heap[hb]? = some (.cells c1 38 (0, 0))) (h2 : w.heap[g]? = some (.cells c2 38 (0, 0))) (h0 : c2.size ≠ 0) :
    (callFunc 88 #[.slice (some ⟨hb, 0, none⟩) la ca, .slice (some ⟨g, off, none⟩) lb cb]).run Try.prog w = .ok (.value (.bool false)) w := by
  rw [run_callFunc_extern Try.func88 (by kernel_rfl) (by kernel_rfl) (by kernel_rfl) (e := Extern.SlicesOverlaps.overlaps #[22, 22] #[4]) (by kernel_rfl),
    Lib.run_overlaps_apart w 22 4 38 Try.underlying22 2 sizeOf38 ⟨hb, 0, none⟩ ⟨g, off, none⟩ la ca lb cb hne 38 38 c1.size c2.size (by simp [World.shape?, h1]) (by simp [World.shape?, h2]) h0 (blk_frozen h1 _) (blk_frozen h1 _)]
  rfl

set_option maxHeartbeats 4000000 in
set_option maxRecDepth 100000 in
theorem insertF_room (ok : Nat → Prop) (B : Nat) (g c i : Nat) (xs : List S38) (hb : Nat) (x : S38) (seg : List Value) (w : World) (ho : O k38 38 w B ok (.slice (some ⟨g, 0, none⟩) xs.length c) xs) (hlen : xs.length ≤ 1000001) (hi : i < xs.length) (hroom : xs.length < c)
    (hv : w.heap[hb]? = some (.cells seg.toArray 38 (0, 0))) (hne : hb ≠ g) (hx : Kd.FK k38 w (fun k => ok k ∧ k ≠ g) x seg) :
    Calls Try.prog 60 #[.slice (some ⟨g, 0, none⟩) xs.length c, .int .i64 i, .slice (some ⟨hb, 0, none⟩) 1 1] w fun e w' => ∃ v', e = .returned v' ∧ O k38 38 w' B ok v' (xs.take i ++ x :: xs.drop i) ∧ w.grownBy w' (some g) := by
  obtain ⟨g', cap', cur, he, hg, _, hh, h3, h4, h5, hr⟩ := O_open ho (by omega)
  injection he with he1 _ he3
  injection he1 with he1
  injection he1 with he1
  subst he1 he3
  have h6 : cur.size = c * 2 := h5
  have h7 : seg.length = 2 := (FK_one hx).1
  have hcl : cur.toList.length = c * 2 := by rw [← h6]; simp
  have hinl : (cur.toList.take (xs.length * 2)).length = xs.length * 2 := by rw [List.length_take, hcl]; omega
  have hcz : cur.size ≠ 0 := by rw [h6]; omega
  have hone := Kd.reps_one hr (by decide) (fun _ _ hx => (FK_one hx).2)
  obtain ⟨cs, hcs⟩ : ∃ cs, (cur.toList.take (xs.length * 2)).drop (i * 2) = cs := ⟨_, rfl⟩
  have hcsl : cs.length = (xs.length - i) * 2 := by rw [← hcs, List.length_drop, hinl]; omega
  have hcs1 : ∀ v ∈ cs, v.oneCell' = true := fun v hv => by rw [← hcs] at hv; exact hone v (List.mem_of_mem_drop hv)
  have hsrc : ∀ j v, cs[j]? = some v → w.drew.cell? ((⟨g, i * 2, none⟩ : Addr).add j) = some v := by
    intro j v hj
    rw [Addr.add_lit]
    show w.cell? _ = _
    rw [cell_of_row w g _ cur 38 (0, 0) hh]
    rw [← hcs, List.getElem?_drop, List.getElem?_take] at hj
    split at hj
    · simpa using hj
    · cases hj
  have hov := fun lb cb => overlaps_no w hb g ((i + 1) * 2) 1 1 lb cb hne seg.toArray cur hv hh hcz
  have hcp1 : ∀ ty dc sc, (Builtin.copy_ #[22, 22] ty #[.slice (some ⟨g, (i + 1) * 2, none⟩) (xs.length - i) dc, .slice (some ⟨g, i * 2, none⟩) (xs.length + 1 - i) sc]).run Try.prog w.drew = .ok (goInt (Nat.min (xs.length + 1 - i) (xs.length - i))) (w.drew.setRow g (cur.toList.take ((i + 1) * 2) ++ cs ++ cur.toList.drop ((i + 1) * 2 + cs.length)).toArray) := fun ty dc sc =>
    run_copy_blk w.drew 22 22 ty 38 g ((i + 1) * 2) _ dc ⟨g, i * 2, none⟩ _ sc 2 cur 38 cs Try.underlying22 size38 hh (by rw [hcsl, show Nat.min (xs.length + 1 - i) (xs.length - i) = xs.length - i by simp only [Nat.min_def]; split <;> omega]) hsrc (by omega) hcs1
  obtain ⟨W1, hW1⟩ : ∃ W1, w.drew.setRow g (cur.toList.take ((i + 1) * 2) ++ cs ++ cur.toList.drop ((i + 1) * 2 + cs.length)).toArray = W1 := ⟨_, rfl⟩
  rw [hW1] at hcp1
  have hW1h : W1.heap[g]? = some (.cells (cur.toList.take ((i + 1) * 2) ++ cs ++ cur.toList.drop ((i + 1) * 2 + cs.length)).toArray 38 (0, 0)) := by rw [← hW1]; exact setRow_heap _ _ _ _ _ _ hh
  have hW1b : W1.heap[hb]? = some (.cells seg.toArray 38 (0, 0)) := by rw [← hW1, setRow_other _ _ _ _ hne]; exact hv
  have hcp2 : ∀ ty dc, (Builtin.copy_ #[22, 22] ty #[.slice (some ⟨g, i * 2, none⟩) (xs.length + 1 - i) dc, .slice (some ⟨hb, 0, none⟩) 1 1]).run Try.prog W1 = .ok (goInt (Nat.min 1 (xs.length + 1 - i))) (W1.setRow g ((cur.toList.take ((i + 1) * 2) ++ cs ++ cur.toList.drop ((i + 1) * 2 + cs.length)).take (i * 2) ++ seg ++ (cur.toList.take ((i + 1) * 2) ++ cs ++ cur.toList.drop ((i + 1) * 2 + cs.length)).drop (i * 2 + seg.length)).toArray) := fun ty dc => by
    have := run_copy_blk W1 22 22 ty 38 g (i * 2) (xs.length + 1 - i) dc ⟨hb, 0, none⟩ 1 1 2 _ 38 seg Try.underlying22 size38 hW1h (by rw [h7, show Nat.min 1 (xs.length + 1 - i) = 1 by simp only [Nat.min_def]; split <;> omega]) (fun j u hu => by rw [add_plain, cell_of_row _ _ _ _ _ _ hW1b]; simpa using hu) (by simp only [List.size_toArray, List.length_append, List.length_take, List.length_drop, hcl, hcsl]; omega) (FK_one hx).2
    simpa only [List.toList_toArray] using this
  have hWd : ∀ k, k ≠ g → W1.heap[k]? = w.heap[k]? := fun k hk => by rw [← hW1, setRow_other _ _ _ _ hk]; rfl
  have hW1s : W1.heap.size = w.heap.size := by rw [← hW1, setRow_size]; rfl
  have hWo : W1.os = w.os ∧ W1.tape = w.tape ∧ W1.output = w.output := by rw [← hW1]; exact ⟨rfl, rfl, rfl⟩
  have HA := Aside0.mk (And.intro hW1h (And.intro hWd (And.intro hW1s hWo)))
  have HR := Aside0.mk hr
  have HX := Aside0.mk hx
  have HS := Aside0.mk (And.intro hcs (And.intro hcsl (And.intro h6 h7)))
  have HC4 := Aside0.mk h4
  clear hW1 hW1h hW1b hWd hW1s hWo hr hx hcs hcsl h6 h7 hsrc hcs1 hone hinl h5 hh hv ho h4
  have e1 : ¬ (c = i + 1) := by omega
  have e2 : ¬ (c = i) := by omega
  go_enter Try.func60, Try.ntmps60
  go_wp2_with (simp only [hov])
  have hw1 : IntKind.i64.wrap ((i : Int) + 1) = (i : Int) + 1 := by rw [IntKind.wrap_i64]; omega
  have hb1 : (0 : Int) ≤ (i : Int) + 1 := by omega
  have htn : ((i : Int) + 1).toNat = i + 1 := by omega
  have hb3 : (i : Int) ≤ (xs.length : Int) + 1 := by omega
  have hin : i ≤ xs.length := by omega
  go_region_law (refine step_copy_run rfl _ _ 22 22 rfl _ _ (by simp [Act.eval, Act.put]) (by simp [Act.eval, Act.put]) (hcp1 _ _ _) ?_)
  clear hw1 hb1 htn hb3 hin
  go_wp2_with (refine wpList_copy_run _ rfl _ _ 22 22 rfl _ _ rfl rfl (hcp2 _ _) ?_)
  go_ret
  obtain ⟨hW1h, hWd, hW1s, hW1o, hW1t, hW1u⟩ := HA.out
  obtain ⟨hcs, hcsl, h6, h7⟩ := HS.out
  have hcl : cur.toList.length = c * 2 := by rw [← h6]; simp
  have hle : (xs.take i ++ x :: xs.drop i).length = xs.length + 1 := by simp only [List.length_append, List.length_take, List.length_cons, List.length_drop]; omega
  have hf := setRow_heap W1 g _ ((cur.toList.take ((i + 1) * 2) ++ cs ++ cur.toList.drop ((i + 1) * 2 + cs.length)).take (i * 2) ++ seg ++ (cur.toList.take ((i + 1) * 2) ++ cs ++ cur.toList.drop ((i + 1) * 2 + cs.length)).drop (i * 2 + seg.length)).toArray 38 (0, 0) hW1h
  refine ⟨_, rfl, ?_, ?_⟩
  · have := O_mk (d := k38) (ok := ok) (xs := xs.take i ++ x :: xs.drop i) (cap := c) hg hf (by omega) HC4.out (by
      rw [show k38.sz = 2 from rfl]
      simp only [List.size_toArray, List.length_append, List.length_take, List.length_drop, hcl, hcsl, h7]
      omega) (by
      have e3 : (i + 1) * 2 = i * 2 + seg.length := by omega
      have h8 := splice3 cur.toList seg cs (a := i * 2) (T := (xs.length + 1) * 2) (by omega) (by omega)
      rw [hle, show (xs.length + 1) * k38.sz = (xs.length + 1) * 2 from rfl, List.toList_toArray, e3, h8]
      have h9 := reps_insert HR.out HX.out h7 i (by omega)
      rw [show i * k38.sz = i * 2 from rfl, show xs.length * k38.sz = xs.length * 2 from rfl, hcs, List.take_take, Nat.min_eq_left (by omega)] at h9
      exact h9.imp_ fun y c' hy => Kd.FK_step hy fun k hk _ => by rw [setRow_other _ _ _ _ hk.2]; exact hWd k hk.2)
    rw [hle] at this
    simp only [List.append_assoc] at this
    exact this
  · exact ⟨hW1o, hW1t, hW1u, by rw [setRow_size, hW1s]; exact Nat.le_refl _, fun k _ hk => by rw [setRow_other _ _ _ _ (fun e => hk (by rw [e]))]; exact hWd k (fun e => hk (by rw [e]))⟩
end Go.Proofs.Ytcgeioingikeeaa.P
namespace Go.Proofs.Ytcgeioingikeeaa.P
open Go.RowKit Go.Proofs.YtcgeioingikeeaaW.PrintWords Go.Proofs.YtcgeioingikeeaaW.PrintLast Go.Proofs.YtcgeioingikeeaaW.PrintMore
set_option linter.unusedVariables false
set_option linter.unusedSimpArgs false

set_option maxHeartbeats 4000000 in
set_option maxRecDepth 100000 in
theorem insertF_grow (ok : Nat → Prop) (B : Nat) (g c i : Nat) (xs : List S38) (hb : Nat) (x : S38) (seg : List Value) (w : World) (ho : O k38 38 w B ok (.slice (some ⟨g, 0, none⟩) xs.length c) xs) (hlen : xs.length ≤ 1000001) (hi : i < xs.length) (hroom : c ≤ xs.length) (hB : B ≤ w.heap.size)
    (hv : w.heap[hb]? = some (.cells seg.toArray 38 (0, 0))) (hx : Kd.FK k38 w (fun k => ok k ∧ k ≠ g) x seg) :
    Calls Try.prog 60 #[.slice (some ⟨g, 0, none⟩) xs.length c, .int .i64 i, .slice (some ⟨hb, 0, none⟩) 1 1] w fun e w' => ∃ v', e = .returned v' ∧ O k38 38 w' B ok v' (xs.take i ++ x :: xs.drop i) ∧ w.grownBy w' (some g) := by
  obtain ⟨g', cap', cur, he, hg, hgs, hh, h3, h4, h5, hr⟩ := O_open ho (by omega)
  injection he with he1 _ he3
  injection he1 with he1
  injection he1 with he1
  subst he1 he3
  have h6 : cur.size = c * 2 := h5
  have h7 : seg.length = 2 := (FK_one hx).1
  have hcl : cur.toList.length = c * 2 := by rw [← h6]; simp
  have hinl : (cur.toList.take (xs.length * 2)).length = xs.length * 2 := by rw [List.length_take, hcl]; omega
  have hone := Kd.reps_one hr (by decide) (fun _ _ hx => (FK_one hx).2)
  obtain ⟨cs, hcs⟩ : ∃ cs, (cur.toList.take (xs.length * 2)).drop (i * 2) = cs := ⟨_, rfl⟩
  have hcsl : cs.length = (xs.length - i) * 2 := by rw [← hcs, List.length_drop, hinl]; omega
  have hcs1 : ∀ v ∈ cs, v.oneCell' = true := fun v hv => by rw [← hcs] at hv; exact hone v (List.mem_of_mem_drop hv)
  obtain ⟨i0, hi0, hz0, hz1, hz2⟩ := info_parts info38
  -- the new row
  have hold : (Builtin.firstCells i0.size i (.slice (some ⟨g, 0, none⟩) i c)).run Try.prog w.drew = .ok (cur.toList.take (i * 2)).toArray w.drew := by
    rw [hz1]
    refine run_firstCells_some (P := Try.prog) w.drew 2 i ⟨g, 0, none⟩ i c (cur.toList.take (i * 2)) (by rw [List.length_take, hcl]; omega) (fun j v hj => ?_)
    rw [add_plain]
    show w.cell? _ = _
    rw [cell_of_row w g _ cur 38 (0, 0) hh]
    rw [List.getElem?_take] at hj
    split at hj
    · simpa using hj
    · cases hj
  have hap0 := Lib.run_append_grow_zeros (P := Try.prog) w 22 3 22 38 i0 _ .i64 .i64 Try.underlying22 Try.underlying3 hi0 hz0 (some ⟨g, 0, none⟩) i c (cur.toList.take (i * 2)) hold (xs.length + 1 - i) (by omega) (by rw [hz1]; omega) (by omega) (by omega) (by rw [hz2]; omega) (growslice_fits (by omega) (by rw [hz2]; omega))
  have hk : i + (xs.length + 1 - i) = xs.length + 1 := by omega
  rw [hk, show ((xs.length + 1 - i : Nat) : Int) = (xs.length : Int) + 1 - (i : Int) by omega] at hap0
  obtain ⟨cap2, hcap2⟩ : ∃ cap2, grownCap w (xs.length + 1) c 38 = cap2 := ⟨_, rfl⟩
  have hge : xs.length + 1 ≤ cap2 := by rw [← hcap2]; exact grownCap_ge _ _ _ _
  have hcm : cap2 ≤ maxLen := by rw [← hcap2]; exact grownCap_le_maxLen _ _ _ _ (by unfold maxLen; omega)
  rw [hcap2] at hap0
  obtain ⟨C2, hC2⟩ : ∃ C2, (cur.toList.take (i * 2)).toArray ++ Builtin.zeroCells (Value.agg #[Value.string { data := #[] }, Value.slice none 0 0]).cells (xs.length + 1 - i) ++ Builtin.zeroCells (Value.agg #[Value.string { data := #[] }, Value.slice none 0 0]).cells (cap2 - (xs.length + 1)) = C2 := ⟨_, rfl⟩
  rw [hC2] at hap0
  have hC2s : C2.size = cap2 * 2 := by
    rw [← hC2]
    simp only [Array.size_append, List.size_toArray, List.length_take, hcl, size_zeroCells, Value.cells]
    simp
    omega
  have hC2t : C2.toList.take (i * 2) = cur.toList.take (i * 2) := by
    rw [← hC2]
    simp only [Array.toList_append, List.append_assoc]
    rw [List.take_append_of_le_length (by rw [List.length_take, hcl]; omega), List.take_take, Nat.min_self]
  clear hC2 hcap2 hold
  obtain ⟨w1, hw1⟩ : ∃ w1, w.drew.alloc (.cells C2 38) = w1 := ⟨_, rfl⟩
  rw [hw1] at hap0
  have hw1n : w1.heap[w.heap.size]? = some (.cells C2 38 (0, 0)) := by rw [← hw1]; exact heap_alloc_new w.drew _
  have hw1o : ∀ k, k < w.heap.size → w1.heap[k]? = w.heap[k]? := fun k hk => by rw [← hw1]; exact Below.heap_alloc w.drew _ k hk
  have hw1s : w1.heap.size = w.heap.size + 1 := by rw [← hw1]; simp
  have hw1x : w1.os = w.os ∧ w1.tape = w.tape ∧ w1.output = w.output := by rw [← hw1]; exact ⟨rfl, rfl, rfl⟩
  clear hw1
  have hbs : hb < w.heap.size := blk_lt hv
  obtain ⟨g2, hg2⟩ : ∃ g2, w.heap.size = g2 := ⟨_, rfl⟩
  rw [hg2] at hap0 hw1n hw1o hw1s hbs hgs hB
  -- the first copy
  have hcp1 : ∀ ty dc, (Builtin.copy_ #[22, 22] ty #[.slice (some ⟨g2, i * 2, none⟩) (xs.length + 1 - i) dc, .slice (some ⟨hb, 0, none⟩) 1 1]).run Try.prog w1 = .ok (goInt (Nat.min 1 (xs.length + 1 - i))) (w1.setRow g2 (C2.toList.take (i * 2) ++ seg ++ C2.toList.drop (i * 2 + seg.length)).toArray) := fun ty dc =>
    run_copy_blk w1 22 22 ty 38 g2 (i * 2) (xs.length + 1 - i) dc ⟨hb, 0, none⟩ 1 1 2 C2 38 seg Try.underlying22 size38 hw1n (by rw [h7, show Nat.min 1 (xs.length + 1 - i) = 1 by simp only [Nat.min_def]; split <;> omega]) (fun j u hu => by rw [add_plain, cell_of_row w1 _ _ seg.toArray 38 (0, 0) ((hw1o hb hbs).trans hv)]; simpa using hu) (by omega) (FK_one hx).2
  obtain ⟨w2, hw2⟩ : ∃ w2, w1.setRow g2 (C2.toList.take (i * 2) ++ seg ++ C2.toList.drop (i * 2 + seg.length)).toArray = w2 := ⟨_, rfl⟩
  rw [hw2] at hcp1
  have hw2n : w2.heap[g2]? = some (.cells (C2.toList.take (i * 2) ++ seg ++ C2.toList.drop (i * 2 + seg.length)).toArray 38 (0, 0)) := by rw [← hw2]; exact setRow_heap _ _ _ _ _ _ hw1n
  have hw2o : ∀ k, k < g2 → w2.heap[k]? = w.heap[k]? := fun k hk => by rw [← hw2, setRow_other _ _ _ _ (by omega)]; exact hw1o k hk
  have hw2s : w2.heap.size = g2 + 1 := by rw [← hw2, setRow_size, hw1s]
  have hw2x : w2.os = w.os ∧ w2.tape = w.tape ∧ w2.output = w.output := by rw [← hw2]; exact hw1x
  clear hw2 hw1n hw1o hw1s hw1x
  have hsrc : ∀ j v, cs[j]? = some v → w2.drew.cell? ((⟨g, i * 2, none⟩ : Addr).add j) = some v := by
    intro j v hj
    rw [Addr.add_lit]
    show w2.cell? _ = _
    rw [cell_of_row w2 g _ cur 38 (0, 0) ((hw2o g hgs).trans hh)]
    rw [← hcs, List.getElem?_drop, List.getElem?_take] at hj
    split at hj
    · simpa using hj
    · cases hj
  have hC2l : C2.toList.length = cap2 * 2 := by rw [← hC2s]; simp
  have hcp2 : ∀ ty dc sc, (Builtin.copy_ #[22, 22] ty #[.slice (some ⟨g2, (i + 1) * 2, none⟩) (xs.length - i) dc, .slice (some ⟨g, i * 2, none⟩) (xs.length - i) sc]).run Try.prog w2.drew = .ok (goInt (Nat.min (xs.length - i) (xs.length - i))) (w2.drew.setRow g2 ((C2.toList.take (i * 2) ++ seg ++ C2.toList.drop (i * 2 + seg.length)).take ((i + 1) * 2) ++ cs ++ (C2.toList.take (i * 2) ++ seg ++ C2.toList.drop (i * 2 + seg.length)).drop ((i + 1) * 2 + cs.length)).toArray) := fun ty dc sc => by
    have := run_copy_blk w2.drew 22 22 ty 38 g2 ((i + 1) * 2) _ dc ⟨g, i * 2, none⟩ _ sc 2 _ 38 cs Try.underlying22 size38 hw2n (by rw [hcsl, show Nat.min (xs.length - i) (xs.length - i) = xs.length - i from Nat.min_self _]) hsrc (by simp only [List.size_toArray, List.length_append, List.length_take, List.length_drop, hC2l, hcsl]; omega) hcs1
    simpa only [List.toList_toArray] using this
  have HA := Aside0.mk (And.intro hw2n (And.intro hw2o (And.intro hw2s hw2x)))
  have HR := Aside0.mk hr
  have HX := Aside0.mk hx
  have HS := Aside0.mk (And.intro hcs (And.intro hcsl (And.intro h6 (And.intro h7 (And.intro hC2l hC2t)))))
  have HC4 := Aside0.mk hcm
  have HG2 := Aside0.mk hg2
  clear hw2n hw2o hw2s hw2x hr hx hcs hcsl h6 h7 hsrc hcs1 hone hinl h5 hh hv ho hcm hC2l hC2t hC2s hcl h4 hg2 hi0 hz0 hz1 hz2
  have e1 : ¬ (cap2 = i + 1) := by omega
  have e2 : ¬ (cap2 = i) := by omega
  have e3 : ¬ (c = i) := by omega
  go_enter Try.func60, Try.ntmps60
  go_wp2_with (first | (at_builtin; refine Lib.wpList_append_run _ rfl _ _ 22 3 rfl _ _ rfl rfl _ _ hap0 ?_) | (refine wpList_copy_run _ rfl _ _ 22 22 rfl _ _ rfl rfl (hcp1 _ _) ?_))
  have hw1 : IntKind.i64.wrap ((i : Int) + 1) = (i : Int) + 1 := by rw [IntKind.wrap_i64]; omega
  have hb1 : (0 : Int) ≤ (i : Int) + 1 := by omega
  have htn : ((i : Int) + 1).toNat = i + 1 := by omega
  have hin : i ≤ xs.length := by omega
  go_region_law (refine step_copy_run rfl _ _ 22 22 rfl _ _ (by simp [Act.eval, Act.put]) (by simp [Act.eval, Act.put]) (hcp2 _ _ _) ?_)
  clear hw1 hb1 htn hin
  go_wp2
  go_ret
  obtain ⟨hw2n, hw2o, hw2s, hw2os, hw2t, hw2u⟩ := HA.out
  obtain ⟨hcs, hcsl, h6, h7, hC2l, hC2t⟩ := HS.out
  have hle : (xs.take i ++ x :: xs.drop i).length = xs.length + 1 := by simp only [List.length_append, List.length_take, List.length_cons, List.length_drop]; omega
  have hf := setRow_heap w2.drew g2 _ ((C2.toList.take (i * 2) ++ seg ++ C2.toList.drop (i * 2 + seg.length)).take ((i + 1) * 2) ++ cs ++ (C2.toList.take (i * 2) ++ seg ++ C2.toList.drop (i * 2 + seg.length)).drop ((i + 1) * 2 + cs.length)).toArray 38 (0, 0) hw2n
  refine ⟨_, rfl, ?_, ?_⟩
  · have := O_mk (d := k38) (ok := ok) (xs := xs.take i ++ x :: xs.drop i) (cap := cap2) hB hf (by omega) HC4.out (by
      rw [show k38.sz = 2 from rfl]
      simp only [List.size_toArray, List.length_append, List.length_take, List.length_drop, hC2l, hcsl, h7]
      omega) (by
      have e3 : (i + 1) * 2 = i * 2 + seg.length := by omega
      have h8 := splice2 C2.toList seg cs (a := i * 2) (T := (xs.length + 1) * 2) (by omega) (by omega)
      rw [hle, show (xs.length + 1) * k38.sz = (xs.length + 1) * 2 from rfl, List.toList_toArray, e3, h8, hC2t]
      have h9 := reps_insert HR.out HX.out h7 i (by omega)
      rw [show i * k38.sz = i * 2 from rfl, show xs.length * k38.sz = xs.length * 2 from rfl, hcs, List.take_take, Nat.min_eq_left (by omega)] at h9
      refine h9.imp_ fun y c' hy => Kd.FK_mono (Kd.FK_step (Kd.FK_bound hy) fun k hk hlt => ?_) fun k hk => ⟨hk.1.1, ?_⟩
      · have hk2 := hk.2
        rw [HG2.out] at hk2
        rw [setRow_other _ _ _ _ (by omega)]
        exact hw2o k hk2
      · have hk2 := hk.2
        rw [HG2.out] at hk2
        omega)
    rw [hle] at this
    simp only [List.append_assoc] at this
    exact this
  · exact ⟨hw2os, hw2t, hw2u, by rw [setRow_size, HG2.out]; show _ ≤ w2.heap.size; omega, fun k hk _ => by rw [HG2.out] at hk; rw [setRow_other _ _ _ _ (by omega)]; exact hw2o k hk⟩
end Go.Proofs.Ytcgeioingikeeaa.P
