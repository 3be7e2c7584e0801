/- Texts joined: Ke Kf Kg Kh Ki Kj Kja. -/
import Derived.Test.YtgpgmmkkmoecmaaGreatDoorPpe
import Derived.MapKept
import Derived.Laws.BytesArg
/- Closed calls, evaluated: operations that read; that make blocks. Plain lemmas over the model; no program. -/
namespace Go.Proofs.YtgpgmmkkmoecmaaGreatDoor
open Go Go.RowKit

section
variable {E : Ev} {W w w' : World} {γ γ' : Nm} {st st' : ES}
theorem obj_run {P : Program} {r : Nat} {a : Array MapEntry} {b : Nat} (h : w.heap[r]? = some (.map a b)) : (getObj r).run P w = .ok (.map a b) w := by simp [getObj, Sem.run, h]
theorem find_ok {kd : TypeDesc} {k : Value} : ∀ {es : List (Value × AV)} {ms : List MapEntry} {i : Nat} {r : Option (Nat × AV)}, findA kd k es i = some r → ms.map (·.key) = es.map (·.1) → concL γ (es.map (·.2)) = some (ms.map (·.val)) →
    (r = none ∧ Instr.findNow kd k ms i = some none) ∨ ∃ j v u, r = some (i + j, v) ∧ Instr.findNow kd k ms i = some (some (i + j, u)) ∧ conc γ v = some u ∧ j < es.length
  | [], ms, i, r, h, h1, h2 => by
    simp only [findA, Option.some.injEq] at h
    subst h
    cases ms with
    | nil => exact .inl ⟨rfl, rfl⟩
    | cons => simp at h1
  | (key, v) :: es, [], i, r, h, h1, h2 => by simp at h1
  | (key, v) :: es, m :: ms, i, r, h, h1, h2 => by
    simp only [List.map_cons, List.cons.injEq] at h1
    obtain ⟨u, rest, hu, hr, e⟩ := concL_cons.1 h2
    simp only [List.map_cons, List.cons.injEq] at e
    obtain ⟨rfl, rfl⟩ := e
    simp only [findA] at h
    simp only [Instr.findNow, h1.1]
    split at h
    · rename_i hs
      simp only [Option.some.injEq] at h
      subst h
      exact .inr ⟨0, v, _, rfl, by simp [hs], hu, by simp⟩
    · rename_i hs
      simp only [hs]
      rcases find_ok h h1.2 hr with ⟨e1, e2⟩ | ⟨j, v', u', e1, e2, e3, e4⟩
      · exact .inl ⟨e1, e2⟩
      · exact .inr ⟨j + 1, v', u', by rw [e1]; congr 2; omega, by rw [e2]; congr 3; omega, e3, by simp; omega⟩
    · simp at h
theorem run_find {P : Program} {kt : TypeId} {kd : TypeDesc} {k : Value} {ms : List MapEntry} {r : Option (Nat × Value)} (hd : P.underlying kt = some kd) (h : Instr.findNow kd k ms 0 = some r) (w : World) : (Instr.findKey kt k ms).run P w = .ok r w := by
  simp only [Instr.findKey, Sem.run_bind, run_underlying hd, Result.andThen_ok, h, Sem.run_pure]
theorem map_at (h : Rel E W γ st w) {i : Nat} {es : List (Value × AV)} (hi : st.h.get i = some (.map es)) {bk : Bk} (hb : γ i = some bk) : ∃ (ms : List MapEntry) (ck : Nat), w.heap[bk.b]? = some (.map ms.toArray ck) ∧ ms.map (·.key) = es.map (·.1) ∧ concL γ (es.map (·.2)) = some (ms.map (·.val)) := by
  obtain ⟨bk', h1, _, h3, _⟩ := h.has i _ hi
  rw [hb] at h1; cases h1
  exact h3
theorem lookup_ok (h : Rel E W γ st w) {t : TypeId} {x ix r : AV} {ok : Bool} {v k : Value} (hl : lLookup E st t x ix ok = some r) (hv : conc γ x = some v) (hk : conc γ ix = some k) : ∃ q, (Instr.lookup t v k ok).run E.P w = .ok q w ∧ conc γ r = some q := by
  unfold lLookup at hl
  split at hl
  case h_2 => simp at hl
  rename_i kt et key hu
  cases conc_c hk
  split at hl
  case h_2 => simp at hl
  rename_i kd z _ _ hd hz hc1 hc2
  have core : ∀ (ms : List MapEntry) (es : List (Value × AV)), ms.map (·.key) = es.map (·.1) → concL γ (es.map (·.2)) = some (ms.map (·.val)) → (match findA kd k es 0 with
        | none => none
        | some none => some (bif ok then .t [.c z, .c (.bool false)] else .c z)
        | some (some (_, v)) => some (bif ok then .t [v, .c (.bool true)] else v)) = some r →
      (Instr.checkKey ms.toArray.isEmpty 10000 kt k).run E.P w = .ok () w ∧ (((Instr.findKey kt k ms).run E.P w = .ok none w ∧ conc γ r = some (if ok then .tuple #[z, .bool false] else z)) ∨ ∃ j u, (Instr.findKey kt k ms).run E.P w = .ok (some (j, u)) w ∧ conc γ r = some (if ok then .tuple #[u, .bool true] else u)) := by
    intro ms es h1 h2 hr
    refine ⟨?_, ?_⟩
    · cases ms.toArray.isEmpty
      · exact valS_run w hc2
      · exact valS_run w hc1
    split at hr
    · simp at hr
    · rename_i hf
      simp only [Option.some.injEq] at hr
      subst hr
      rcases find_ok hf h1 h2 with ⟨_, e2⟩ | ⟨j, v', u', e1, _⟩
      · exact .inl ⟨run_find hd e2 w, by cases ok <;> simp [conc, concL]⟩
      · cases e1
    · rename_i j v hf
      simp only [Option.some.injEq] at hr
      subst hr
      rcases find_ok hf h1 h2 with ⟨e1, _⟩ | ⟨j, v', u', e1, e2, e3, _⟩
      · cases e1
      · cases e1
        exact .inr ⟨_, u', run_find hd e2 w, by cases ok <;> simp [conc, concL, e3]⟩
  split at hl
  · simp at hl
  · rename_i es hes
    unfold mapA at hes
    split at hes
    · simp only [Option.some.injEq] at hes
      subst hes
      cases conc_c hv
      obtain ⟨h1, h2⟩ := core [] [] rfl rfl hl
      unfold Instr.lookup
      simp only [Sem.run_bind, run_underlying hu, Result.andThen_ok, Sem.run_pure, h1]
      rcases h2 with ⟨h2, h3⟩ | ⟨j, u, h2, h3⟩
      · exact ⟨_, by simp only [h2, Sem.run_bind, Result.andThen_ok, run_zero hz, Sem.run_pure], h3⟩
      · exact ⟨_, by simp only [h2, Sem.run_bind, Result.andThen_ok, Sem.run_pure], h3⟩
    · rename_i i
      split at hes
      · rename_i es' hi
        simp only [Option.some.injEq] at hes
        subst hes
        obtain ⟨bk, hb, rfl⟩ := conc_m hv
        obtain ⟨ms, ck, h1, h2, h3⟩ := map_at h hi hb
        obtain ⟨h4, h5⟩ := core ms _ h2 h3 hl
        unfold Instr.lookup
        simp only [Sem.run_bind, run_underlying hu, Result.andThen_ok, obj_run h1, Sem.run_pure, h4]
        rcases h5 with ⟨h5, h6⟩ | ⟨j, u, h5, h6⟩
        · exact ⟨_, by simp only [h5, Sem.run_bind, Result.andThen_ok, run_zero hz, Sem.run_pure], h6⟩
        · exact ⟨_, by simp only [h5, Sem.run_bind, Result.andThen_ok, Sem.run_pure], h6⟩
      · simp at hes
    · simp at hes
theorem bytes_ok : ∀ {l : List AV} {acc bs : List UInt8} {vs : List Value}, bytesA l acc = some bs → concL γ l = some vs → ∃ ns : List Int, vs = ns.map (Value.int .u8) ∧ bs = acc.reverse ++ ns.map (fun n => UInt8.ofNat n.toNat)
  | [], acc, bs, vs, h, hc => by
    simp only [bytesA, Option.some.injEq] at h
    simp only [concL, Option.some.injEq] at hc
    subst h hc
    exact ⟨[], rfl, by simp⟩
  | x :: l, acc, bs, vs, h, hc => by
    unfold bytesA at h
    split at h
    · rename_i hxl; cases hxl
    · rename_i n l' hxl
      cases hxl
      obtain ⟨v, r, hv, hr, rfl⟩ := concL_cons.1 hc
      cases conc_c hv
      obtain ⟨ns, rfl, e⟩ := bytes_ok h hr
      exact ⟨n :: ns, rfl, by rw [e]; simp⟩
    · simp at h
theorem conv_ok (h : Rel E W γ st w) {s d : TypeId} {x r : AV} {v : Value} (hl : lConv E st s d x = some r) (hv : conc γ x = some v) : ∃ q, (convert s d v).run E.P w = .ok q w ∧ conc γ r = some q := by
  unfold lConv at hl
  split at hl
  case h_2 => simp at hl
  rename_i e i o n _ _ hs hd
  split at hl
  case h_2 => simp at hl
  rename_i l he hr
  simp only [Option.map_eq_some_iff] at hl
  obtain ⟨bs, hb, rfl⟩ := hl
  obtain ⟨bk, hbk, rfl, _⟩ := conc_s hv
  obtain ⟨bk', vs, hb', hc, hlen, hcell⟩ := rd_ok h hr
  rw [hbk] at hb'; cases hb'
  obtain ⟨ns, rfl, e2⟩ := bytes_ok hb hc
  refine ⟨.string ⟨bs.toArray⟩, ?_, rfl⟩
  rw [run_convert_bytes_string w s d e _ _ _ hs he hd, run_bytesToString w _ _ _ ns (run_cells hcell hlen), foldl_push_bytes, e2]
  simp only [ByteArray.empty, ByteArray.emptyWithCapacity, List.reverse_nil, List.nil_append]
  congr 3
  simp
  rfl
theorem nextA_ok (h : Rel E W γ st w) {x r : AV} {v : Value} {ty : TypeId} (hl : lNext st x = some r) (hv : conc γ x = some v) : ∃ q, (Instr.next v false ty).run E.P w = .ok q w ∧ conc γ r = some q := by
  unfold lNext at hl
  split at hl
  case h_2 => simp at hl
  rename_i i
  split at hl
  case h_2 => simp at hl
  rename_i m hi
  split at hl
  case h_2 => simp at hl
  rename_i hm
  simp only [Option.some.injEq] at hl
  subst hl
  obtain ⟨bk, hbk, rfl⟩ := conc_p hv
  obtain ⟨bk', h1, _, h3, _⟩ := h.has i _ hi
  rw [hbk] at h1; cases h1
  obtain ⟨h0, mb, since, ck, hmb, hh⟩ := h3
  obtain ⟨ms, ck', h4, h5, h6⟩ := map_at h hm hmb
  have hms : ms = [] := by simpa using h5
  subst hms
  refine ⟨_, ?_, rfl⟩
  have e1 : (getObj bk.b).run E.P w = .ok (.mapIter (some mb.b) since #[] ck) w := by simp [getObj, Sem.run, hh]
  have e2 : (getObj mb.b).run E.P w = .ok (.map #[] ck') w := obj_run h4
  have e0 : bk.o + 0 = 0 := by omega
  rw [e0]
  unfold Instr.next
  simp only [Sem.run_bind, e1, Result.andThen_ok, e2]
  have hf : ∀ p : MapEntry → Bool, Array.filter p (#[] : Array MapEntry) = #[] := fun p => by simp
  rw [if_neg (by simp)]
  simp only [hf]
  have hc : ((if (#[] : Array MapEntry).isEmpty = true then #[none] else #[]) ++ Array.map some (#[] ++ #[]) : Array (Option MapEntry)) = #[none] := by simp
  rw [hc]
  rfl
theorem llen_ok (h : Rel E W γ st w) {t ty : TypeId} {x r : AV} {v : Value} (hl : lLen E st t x = some r) (hv : conc γ x = some v) : ∃ q, (Builtin.len_ #[t] ty #[v]).run E.P w = .ok q w ∧ conc γ r = some q := by
  unfold lLen at hl
  split at hl
  case h_2 => simp at hl
  rename_i i
  split at hl
  case h_2 => simp at hl
  rename_i es hu hi
  simp only [Option.some.injEq] at hl
  subst hl
  obtain ⟨bk, hbk, rfl⟩ := conc_m hv
  obtain ⟨ms, ck, h1, h2, h3⟩ := map_at h hi hbk
  have hlen : ms.length = es.length := by simpa using congrArg List.length h2
  exact ⟨_, by simp [Builtin.len_, run_underlying hu, obj_run h1, hlen], rfl⟩
/-- What an operation that reads gives. -/
theorem load_ok (h : Rel E W γ st w) {ρA : Operand → AV} {ρ : Operand → Value} (hρ : ∀ x, conc γ (ρA x) = some (ρ x)) {o : Oper} {r : AV} (hl : evLoad E st ρA o.op = some r) :
    ∃ q, (execOp ρ o).run E.P w = .ok (.value q) w ∧ conc γ r = some q := by
  obtain ⟨dst, op, ty, pos, after, guard⟩ := o
  cases op <;> simp only [evLoad] at hl
  case load t x =>
    obtain ⟨a, q, h1, h2, h3⟩ := ld_ok h hl (hρ x)
    exact ⟨q, by simp only [execOp, h1, Instr.loadAt, Instr.sureAddr, Sem.run_bind, Sem.run_pure, Result.andThen_ok, h2], h3⟩
  case lookup t x ix ok =>
    obtain ⟨q, h1, h2⟩ := lookup_ok h hl (hρ x) (hρ ix)
    exact ⟨q, by simp only [execOp, Sem.run_bind, h1, Result.andThen_ok, Sem.run_pure], h2⟩
  case convert s d x =>
    obtain ⟨q, h1, h2⟩ := conv_ok h hl (hρ x)
    exact ⟨q, by simp only [execOp, Sem.run_bind, h1, Result.andThen_ok, Sem.run_pure], h2⟩
  case next x b =>
    cases b with
    | true => simp at hl
    | false =>
      simp only [cond_false] at hl
      obtain ⟨q, h1, h2⟩ := nextA_ok (ty := ty) h hl (hρ x)
      exact ⟨q, by simp only [execOp, Sem.run_bind, h1, Result.andThen_ok, Sem.run_pure], h2⟩
  case call c =>
    obtain ⟨callee, args, ts⟩ := c
    cases callee with
    | builtin b =>
      simp only at hl
      obtain ⟨args⟩ := args
      obtain ⟨ts⟩ := ts
      unfold lBuiltin at hl
      split at hl
      · rename_i x t hx ht
        obtain ⟨y, rfl, rfl⟩ : ∃ y, args = [y] ∧ x = ρA y := by
          cases args with
          | nil => simp at hx
          | cons y l => cases l with
            | nil => simp at hx; exact ⟨y, rfl, hx.symm⟩
            | cons => simp at hx
        simp only at ht
        subst ht
        obtain ⟨q, h1, h2⟩ := llen_ok (ty := ty) h hl (hρ y)
        refine ⟨q, ?_, h2⟩
        simp only [execOp, resolve, invoke, Sem.run_bind, Sem.run_pure, Result.andThen_ok]
        simp only [builtin, Sem.run_bind, Sem.run_pure]
        have e : (⟨[y]⟩ : Array Operand).map ρ = #[ρ y] := by simp
        rw [e, h1]; rfl
      · simp at hl
    | _ => simp at hl
  all_goals simp at hl
end
end Go.Proofs.YtgpgmmkkmoecmaaGreatDoor

/- Closed calls, evaluated: operations that make blocks, or write. Plain lemmas over the model; no program. -/
namespace Go.Proofs.YtgpgmmkkmoecmaaGreatDoor
open Go Go.RowKit

theorem newObj_run (P : Program) (w : World) (o : Obj) : (newObj o).run P w = .ok w.heap.size (w.alloc o) := rfl
theorem rep_zero (z : Array Value) : ∀ c : Nat, ((List.range (c * z.size)).map fun i => z[i % z.size]!) = (List.replicate c z.toList).flatten
  | 0 => by simp
  | c + 1 => by
    rw [Nat.succ_mul, List.range_add, List.map_append, rep_zero z c, List.replicate_succ', List.flatten_append]
    congr 1
    simp only [List.flatten_cons, List.flatten_nil, List.append_nil, List.map_map]
    apply List.ext_getElem?
    intro j
    by_cases hj : j < z.size
    · simp only [List.getElem?_map, List.getElem?_range hj, Option.map_some, Function.comp]
      have : (c * z.size + j) % z.size = j := by rw [Nat.mul_comm, Nat.mul_add_mod]; exact Nat.mod_eq_of_lt hj
      rw [this]
      simp [hj]
    · rw [List.getElem?_eq_none (by simp; omega), List.getElem?_eq_none (by simp; omega)]
theorem rep_zeroA (z : Array Value) (c : Nat) : ((Array.range (c * z.size)).map fun i => z[i % z.size]!).toList = (List.replicate c z.toList).flatten := by
  rw [← rep_zero z c]; simp
theorem conc_zeros (γ : Nm) (l : List Value) (c : Nat) : concL γ (zerosA (l.map .c) c) = some (List.replicate c l).flatten := by
  have : zerosA (l.map .c) c = ((List.replicate c l).flatten).map .c := by
    unfold zerosA
    rw [List.map_flatten, List.map_replicate]
  rw [this]; exact concL_c _
theorem wrap_small {n : Nat} (h : n ≤ 1000000000) : IntKind.i64.wrap (n : Int) = n := by
  simp [IntKind.wrap, IntKind.bits, IntKind.signed]
  omega
section
variable {E : Ev} {W w w' : World} {γ γ' : Nm} {st st' : ES}
theorem run_zeroCells {n : Nat} {z : Array Value} : Builtin.zeroCells z n = (List.replicate n z.toList).flatten.toArray := by
  apply Array.toList_inj.1
  rw [show (Builtin.zeroCells z n).toList = ((Array.range (n * z.size)).map fun i => z[i % z.size]!).toList from rfl, rep_zeroA]
/-- What a new block is, and its value. -/
def Made (E : Ev) (γ : Nm) (w : World) (id : Nat) (v : AV) (ob : AO) (run : Result Next) : Prop :=
  ob.own = true ∧ ∃ q obj k, run = .ok (.value q) (w.alloc obj) ∧ ∀ γ', Ext γ γ' → γ' id = some ⟨w.heap.size, 0, k, none⟩ → conc γ' v = some q ∧ ∀ w'', w''.heap[w.heap.size]? = some obj → ob.at_ E.P γ' ⟨w.heap.size, 0, k, none⟩ w''
theorem made_cells {id : Nat} {v : AV} {l : List AV} {cs : List Value} {e : TypeId} {run : Result Next} {q : Value} (hl : concL γ l = some cs) (hr : run = .ok (.value q) (w.alloc (.cells cs.toArray e)))
    (hv : ∀ γ' bk, γ' id = some bk → bk.b = w.heap.size → bk.o = 0 → conc γ' v = some q) : Made E γ w id v (.cells l e false) run :=
  ⟨rfl, q, _, 0, hr, fun γ' hx hi => ⟨hv γ' _ hi rfl rfl, fun w'' hw => ⟨rfl, rfl, cs, [], concL_ext hx l hl, by simpa using hw, fun _ => rfl, fun h => by cases h⟩⟩⟩
theorem new_ok (h : Rel E W γ st w) {ρA : Operand → AV} {ρ : Operand → Value} (hρ : ∀ x, conc γ (ρA x) = some (ρ x)) {o : Oper} {id : Nat} {v : AV} {ob : AO} (hn : evNew E ρA id o.op = some (v, ob)) : Made E γ w id v ob ((execOp ρ o).run E.P w) := by
  obtain ⟨dst, op, ty, pos, after, guard⟩ := o
  have ptr : ∀ γ' bk, γ' id = some bk → bk.b = w.heap.size → bk.o = 0 → conc γ' (.p id 0) = some (.pointer (some ⟨w.heap.size, 0, none⟩)) := fun γ' bk hb h1 h2 => by simp [conc, hb, h1, h2]
  have slc : ∀ n c γ' bk, γ' id = some bk → bk.b = w.heap.size → bk.o = 0 → conc γ' (.s id 0 n false c) = some (.slice (some ⟨w.heap.size, 0, none⟩) n c) := fun n c γ' bk hb h1 h2 => by rw [conc_s_mk hb (fun h => by cases h)]; simp [h1, h2]
  cases op <;> simp only [evNew] at hn
  case alloc e =>
    simp only [Option.map_eq_some_iff, Prod.mk.injEq] at hn
    obtain ⟨z, hz, rfl, rfl⟩ := hn
    exact made_cells (concL_c z.cells.toList) (by simp [execOp, Instr.alloc, run_zero hz, newVar, newRow]) ptr
  case box e x =>
    simp only [Option.some.injEq, Prod.mk.injEq] at hn
    obtain ⟨rfl, rfl⟩ := hn
    exact made_cells (cells_conc (hρ x)) (by simp [execOp, Instr.box, newVar, newRow]) ptr
  case makeMap t r =>
    have fin : ∀ run, run = (.ok (.value (.map (some w.heap.size))) (w.alloc (.map #[] 0)) : Result Next) → Made E γ w id (.m id) (.map []) run := fun run hr =>
      ⟨rfl, _, _, 0, hr, fun γ' hx hi => ⟨by simp [conc, hi], fun w'' hw => ⟨[], 0, by simpa using hw, rfl, rfl⟩⟩⟩
    cases r with
    | none =>
      simp only [Option.some.injEq, Prod.mk.injEq] at hn
      obtain ⟨rfl, rfl⟩ := hn
      exact fin _ (by simp [execOp, Instr.makeMap])
    | some x =>
      simp only [nMap] at hn
      split at hn
      case h_2 => simp at hn
      rename_i k n hx
      split at hn
      case h_2 => simp at hn
      rename_i kt et hu
      simp only [Option.some.injEq, Prod.mk.injEq] at hn
      obtain ⟨rfl, rfl⟩ := hn
      have := hρ x
      rw [hx] at this
      exact fin _ (by simp [execOp, Instr.makeMap, run_underlying hu, conc_c this, asInt, asIntOf])
  case makeSlice t x y =>
    unfold nSlice at hn
    split at hn
    case h_2 => simp at hn
    rename_i e l c hu hl hc
    obtain ⟨kl, hl⟩ := nat_ok hl (hρ x)
    obtain ⟨kc, hc⟩ := nat_ok hc (hρ y)
    split at hn
    case h_2 => simp at hn
    rename_i i hi
    split at hn
    case h_2 => simp at hn
    rename_i z hz
    cases hb : (Nat.ble l c && (Nat.ble (c * i.bytes) 1000000000 && (Nat.ble c 1000000 && Nat.beq z.cells.toList.length i.size))) with
    | false => rw [hb] at hn; simp at hn
    | true =>
      rw [hb] at hn
      simp only [cond_true, Option.some.injEq, Prod.mk.injEq] at hn
      obtain ⟨rfl, rfl⟩ := hn
      simp only [Bool.and_eq_true] at hb
      have h1 := ble_le hb.1
      have h2 := ble_le hb.2.1
      have h3 := ble_le hb.2.2.1
      have h4 := Nat.eq_of_beq_eq_true hb.2.2.2
      simp only [Array.length_toList] at h4
      refine made_cells (conc_zeros γ _ c) ?_ (slc l c)
      have hc0 : c * i.size = 0 → (Array.range (c * i.size)).map (fun j => (#[] : Array Value)[j % (#[] : Array Value).size]!) = (List.replicate c z.cells.toList).flatten.toArray := fun hn0 => by
        apply Array.toList_inj.1
        have := rep_zeroA z.cells c
        rw [h4, hn0] at this
        rw [hn0]
        simpa using this
      have hc1 : (Array.range (c * i.size)).map (fun j => z.cells[j % z.cells.size]!) = (List.replicate c z.cells.toList).flatten.toArray := by
        apply Array.toList_inj.1
        rw [← h4, rep_zeroA]
      have hzv : zeroV E e = some z := by simp [zeroV, hi, hz]
      have hw1 := wrap_small (show l ≤ 1000000000 by omega)
      have hw2 := wrap_small (show c ≤ 1000000000 by omega)
      have hbig : ¬ ((i.bytes : Int) * (c : Int) > 2 ^ 48) := by
        have e : (i.bytes : Int) * (c : Int) = ((c * i.bytes : Nat) : Int) := by rw [Nat.mul_comm]; simp
        rw [e]
        have e3 : (2 : Int) ^ 48 = 281474976710656 := by decide
        rw [e3]; omega
      have hneg1 : ¬ ((c : Int) < 0) := by omega
      have hneg2 : ¬ ((l : Int) < 0) := by omega
      have hneg3 : ¬ ((l : Int) > (c : Int)) := by omega
      simp only [execOp, Instr.makeSlice, hl, hc, asInt, asIntOf, Sem.run_bind, Sem.run_pure, run_underlying hu, Result.andThen_ok, run_info hi, hw1, hw2, hbig, hneg1, hneg2, hneg3, decide_false, Bool.or_self, Bool.false_eq_true, if_false, run_askRoom, Int.toNat_natCast, sizeOf]
      by_cases hn0 : c * i.size = 0
      · rw [if_pos hn0]
        simp only [Sem.run_bind, Sem.run_pure, Result.andThen_ok, newRow, newObj_run]
        rw [hc0 hn0]
      · rw [if_neg hn0]
        simp only [Sem.run_bind, run_zero hzv, Sem.run_pure, Result.andThen_ok, newRow, newObj_run]
        rw [hc1]
  case buildSlice t n parts =>
    unfold nRow at hn
    split at hn
    case h_2 => simp at hn
    rename_i e hu
    split at hn
    case h_2 => simp at hn
    rename_i i hi
    split at hn
    case h_2 => simp at hn
    rename_i z hz
    cases hb : (Nat.ble (n * i.size) 1000000 && Nat.beq z.cells.toList.length i.size) with
    | false => rw [hb] at hn; simp at hn
    | true =>
      rw [hb] at hn
      simp only [cond_true, Option.map_eq_some_iff, Prod.mk.injEq] at hn
      obtain ⟨l, hl, rfl, rfl⟩ := hn
      simp only [Bool.and_eq_true] at hb
      have h1 := ble_le hb.1
      have h4 := Nat.eq_of_beq_eq_true hb.2
      simp only [Array.length_toList] at h4
      have hc0 : n * i.size = 0 → (Array.range (n * i.size)).map (fun j => (#[] : Array Value)[j % (#[] : Array Value).size]!) = (List.replicate n z.cells.toList).flatten.toArray := fun hn0 => by
        apply Array.toList_inj.1
        have := rep_zeroA z.cells n
        rw [h4, hn0] at this
        rw [hn0]
        simpa using this
      have hc1 : (Array.range (n * i.size)).map (fun j => z.cells[j % z.cells.size]!) = (List.replicate n z.cells.toList).flatten.toArray := by
        apply Array.toList_inj.1
        rw [← h4, rep_zeroA]
      have hzv : zeroV E e = some z := by simp [zeroV, hi, hz]
      obtain ⟨cs', h5, h6⟩ := fill_ok hρ (fun k => some (k * i.size, i.size)) parts.toList _ _ (List.replicate n z.cells.toList).flatten.toArray hl (by simpa using conc_zeros γ z.cells.toList n)
      refine made_cells h6 ?_ (slc n n)
      have hbig : ¬ (n * i.size > 2 ^ 24) := by have : (2:Nat) ^ 24 = 16777216 := by decide
                                                omega
      have e2 : (Array.map (fun (x : Nat × Operand) => (x.fst, ρ x.snd)) parts).toList = parts.toList.map fun p => (p.1, ρ p.2) := by simp
      simp only [execOp, Instr.buildSlice, Sem.run_bind, Sem.run_pure, run_underlying hu, Result.andThen_ok, sizeOf, run_info hi, hbig, if_false]
      by_cases hn0 : n * i.size = 0
      · rw [if_pos hn0]
        simp only [Sem.run_bind, Sem.run_pure, Result.andThen_ok]
        rw [hc0 hn0]
        simp only [e2, h5, newRow, Sem.run_bind, newObj_run, Sem.run_pure, Result.andThen_ok, Array.toArray_toList]
      · rw [if_neg hn0]
        simp only [Sem.run_bind, run_zero hzv, Sem.run_pure, Result.andThen_ok]
        rw [hc1]
        simp only [e2, h5, newRow, Sem.run_bind, newObj_run, Sem.run_pure, Result.andThen_ok, Array.toArray_toList]
  all_goals simp at hn
end
end Go.Proofs.YtgpgmmkkmoecmaaGreatDoor

/- Closed calls, evaluated: operations that write. Plain lemmas over the model; no program. -/
namespace Go.Proofs.YtgpgmmkkmoecmaaGreatDoor
open Go Go.RowKit

section
variable {E : Ev} {W w w' : World} {γ γ' : Nm} {st st' : ES}
/-- The operation goes through, and to this. -/
def Does (E : Ev) (W : World) (γ : Nm) (st : ES) (w : World) (r : AV) (st' : ES) (run : Result Next) : Prop :=
  ∃ γ' q w', (run = .ok (.value q) w' ∨ (run = .ok .skip w' ∧ q = undef)) ∧ conc γ' r = some q ∧ Rel E W γ' st' w' ∧ Goes γ γ' st st' w w'
theorem store_run {P : Program} {b o : Nat} {e : TypeId} : ∀ (us : List Value) (i : Nat) (arr : Array Value) (w : World), w.heap[b]? = some (.cells arr e (0, 0)) → o + i + us.length ≤ arr.size → (∀ u ∈ us, u.oneCell' = true) →
    ∃ w', (storeCells ⟨b, o, none⟩ us i).run P w = .ok () w' ∧ w'.heap[b]? = some (.cells (arr.toList.take (o + i) ++ (us ++ arr.toList.drop (o + i + us.length))).toArray e (0, 0)) ∧ w'.heap.size = w.heap.size ∧ (∀ k, k ≠ b → w'.heap[k]? = w.heap[k]?) ∧ w'.os = w.os ∧ w'.tape = w.tape ∧ w'.output = w.output
  | [], i, arr, w, h, hl, _ => ⟨w, rfl, by simp [h], rfl, fun _ _ => rfl, rfl, rfl, rfl⟩
  | u :: us, i, arr, w, h, hl, h1 => by
    simp only [List.length_cons] at hl
    have hc : w.cell? ⟨b, o + i, none⟩ = some (arr[o + i]'(by omega)) := by
      unfold World.cell?
      simp only [h]
      simp [show o + i < arr.size by omega]
    have hf : w.frozen? ⟨b, o + i, none⟩ = false := by unfold World.frozen?; simp [h]
    have hs : (store ((⟨b, o, none⟩ : Addr).add i) u).run P w = .ok () (w.setCell ⟨b, o + i, none⟩ u) := by
      rw [Addr.add_lit, run_store P w _ u _ (h1 u (by simp)), hc]
      simp [hf]
    have hh : (w.setCell ⟨b, o + i, none⟩ u).heap[b]? = some (.cells (arr.setIfInBounds (o + i) u) e (0, 0)) := by simp [World.setCell, Array.getElem?_modify, h]
    obtain ⟨w', r1, r2, r3, r4, r5, r6, r7⟩ := store_run (P := P) (b := b) (o := o) (e := e) us (i + 1) (arr.setIfInBounds (o + i) u) _ hh (by simp; omega) (fun v hv => h1 v (by simp [hv]))
    refine ⟨w', ?_, ?_, ?_, fun k hk => ?_, r5, r6, r7⟩
    · simp only [storeCells, Sem.run_bind, hs, Result.andThen_ok, r1]
    · rw [r2]
      congr 2
      apply Array.toList_inj.1
      have := fold_set (u :: us) arr o i (by simp; omega)
      have h3 := fold_set us (arr.setIfInBounds (o + i) u) o (i + 1) (by simp; omega)
      simp only [List.zipIdx_cons, List.foldl_cons] at this
      rw [h3] at this
      simpa [Nat.add_assoc] using this
    · rw [r3]; simp [World.setCell]
    · rw [r4 k hk]
      simp only [World.setCell, Array.getElem?_modify]
      rw [if_neg (by omega)]
theorem flat_one {x : AV} {v : Value} (hf : x.flat = true) (h : conc γ x = some v) : v.oneCell' = true := by
  obtain ⟨h1, h2⟩ := flat_conc hf h
  cases v <;> first | rfl | exact absurd rfl (h1 _) | exact absurd rfl (h2 _)
theorem flats_one : ∀ {l : List AV} {vs : List Value}, l.all AV.flat = true → concL γ l = some vs → ∀ u ∈ vs, u.oneCell' = true
  | [], vs, _, h, u, hu => by simp only [concL, Option.some.injEq] at h; subst h; simp at hu
  | x :: l, vs, hf, h, u, hu => by
    obtain ⟨v, r, hv, hr, rfl⟩ := concL_cons.1 h
    simp only [List.all_cons, Bool.and_eq_true] at hf
    rcases List.mem_cons.1 hu with rfl | hu
    · exact flat_one hf.1 hv
    · exact flats_one hf.2 hr u hu
theorem wr_ok (h : Rel E W γ st w) {i o : Nat} {vs : List AV} (hw : wr st i o vs = some st') {us : List Value} (hu : concL γ vs = some us) {bk : Bk} (hb : γ i = some bk) :
    ∃ w', (storeCells ⟨bk.b, bk.o + o, none⟩ us).run E.P w = .ok () w' ∧ Rel E W γ st' w' ∧ Goes γ γ st st' w w' := by
  unfold wr at hw
  split at hw
  case h_2 => simp at hw
  rename_i l e g hi
  cases hc : (Nat.ble (o + vs.length) l.length && vs.all AV.flat) with
  | false => rw [hc] at hw; simp at hw
  | true =>
    rw [hc] at hw
    simp only [cond_true, Option.some.injEq] at hw
    subst hw
    simp only [Bool.and_eq_true] at hc
    have hle := ble_le hc.1
    obtain ⟨bk', h1, _, h3, _⟩ := h.has i _ hi
    rw [hb] at h1; cases h1
    obtain ⟨k1, k2, cs, ex, k3, k4, k5, k6⟩ := h3
    have hl1 := concL_len k3
    have hl2 := concL_len hu
    obtain ⟨w', r1, r2, r3, r4, r5, r6, r7⟩ := store_run (P := E.P) (o := bk.o + o) us 0 _ w k4 (by rw [k1]; simp; omega) (flats_one hc.2 hu)
    refine ⟨w', r1, h.write hi rfl hb rfl r3 r4 r5 r6 r7 ⟨k1, k2, cs.take o ++ (us ++ cs.drop (o + vs.length)), ex, concL_append (concL_take o k3) (concL_append hu (concL_drop _ k3)), ?_, k5, fun hg => ?_⟩⟩
    · rw [r2]
      congr 2
      apply Array.toList_inj.1
      simp only [k1, Nat.zero_add, Nat.add_zero, List.append_assoc]
      rw [List.take_append_of_le_length (by omega), List.drop_append_of_le_length (by omega), hl2]
    · obtain ⟨ti, t1, t2⟩ := k6 hg
      refine ⟨ti, t1, ?_⟩
      simp only [List.length_append, List.length_take, List.length_drop] at t2 ⊢
      omega
theorem Does.skip {r : AV} {run : Result Next} {w' : World} (hr : run = .ok .skip w') (hc : r = .c undef) (h : Rel E W γ st' w') (hg : Goes γ γ st st' w w') : Does E W γ st w r st' run :=
  ⟨γ, undef, w', .inr ⟨hr, rfl⟩, by rw [hc]; rfl, h, hg⟩
theorem Does.val {r : AV} {run : Result Next} {w' : World} {q : Value} (hr : run = .ok (.value q) w') (hc : conc γ' r = some q) (h : Rel E W γ' st' w') (hg : Goes γ γ' st st' w w') : Does E W γ st w r st' run :=
  ⟨γ', q, w', .inl hr, hc, h, hg⟩
theorem hstore_ok (h : Rel E W γ st w) {t : TypeId} {a x r : AV} {u v : Value} (hs : hStore E st t a x = some (r, st')) (ha : conc γ a = some u) (hx : conc γ x = some v) :
    r = .c undef ∧ ∃ w', (Instr.storeAt t u v).run E.P w = .ok () w' ∧ Rel E W γ st' w' ∧ Goes γ γ st st' w w' := by
  unfold hStore at hs
  split at hs
  case h_2 => simp at hs
  rename_i i o n haddr hsz
  cases hb : Nat.beq x.cells.length n with
  | false => rw [hb] at hs; simp at hs
  | true =>
    rw [hb] at hs
    simp only [cond_true, Option.map_eq_some_iff, Prod.mk.injEq] at hs
    obtain ⟨st1, hw, rfl, rfl⟩ := hs
    have hn := Nat.eq_of_beq_eq_true hb
    obtain ⟨bk, hbk, rfl⟩ := addr_ok h.glob haddr ha
    have hc := cells_conc hx
    have hlen := concL_len hc
    obtain ⟨w', r1, r2, r3⟩ := wr_ok h hw hc hbk
    refine ⟨rfl, w', ?_, r2, r3⟩
    have hne : ¬ v.cells.size ≠ n := by simp only [Array.length_toList] at hlen; omega
    simp only [Instr.storeAt, Instr.sureAddr, Sem.run_bind, Sem.run_pure, Result.andThen_ok, storeVar, run_sz hsz, hne, if_false, r1]
/-- A map is written. -/
theorem map_write (h : Rel E W γ st w) {i : Nat} {es es' : List (Value × AV)} {bk : Bk} (hi : st.h.get i = some (.map es)) (hb : γ i = some bk) {ms' : List MapEntry} {ck' : Nat} (h1 : ms'.map (·.key) = es'.map (·.1)) (h2 : concL γ (es'.map (·.2)) = some (ms'.map (·.val))) :
    ∃ w', (setObj bk.b (.map ms'.toArray ck')).run E.P w = .ok () w' ∧ Rel E W γ ⟨st.h.put i (some (.map es')), st.x⟩ w' ∧ Goes γ γ st ⟨st.h.put i (some (.map es')), st.x⟩ w w' := by
  obtain ⟨ms, ck, h3, _, _⟩ := map_at h hi hb
  have hlt : bk.b < w.heap.size := (Array.getElem?_eq_some_iff.1 h3).1
  refine ⟨{ w with heap := w.heap.setIfInBounds bk.b (.map ms'.toArray ck') }, by simp [setObj, Sem.run, h3], ?_⟩
  exact h.write hi rfl hb rfl (by simp) (fun k hk => by simp only [Array.getElem?_setIfInBounds]; rw [if_neg (fun e => hk e.symm)]) rfl rfl rfl ⟨ms', ck', by simp [hlt], h1, h2⟩
theorem hupdate_ok (h : Rel E W γ st w) {t : TypeId} {m k x r : AV} {vm vk vx : Value} (hs : hUpdate E st t m k x = some (r, st')) (hm : conc γ m = some vm) (hk : conc γ k = some vk) (hx : conc γ x = some vx) :
    r = .c undef ∧ ∃ w', (Instr.mapUpdate t vm vk vx).run E.P w = .ok () w' ∧ Rel E W γ st' w' ∧ Goes γ γ st st' w w' := by
  unfold hUpdate at hs
  split at hs
  case h_2 => simp at hs
  rename_i kt et i key hu
  cases conc_c hk
  split at hs
  case h_2 => simp at hs
  rename_i kd _ es hd hck hi
  obtain ⟨bk, hbk, rfl⟩ := conc_m hm
  obtain ⟨ms, ck, h3, h4, h5⟩ := map_at h hi hbk
  have e1 := obj_run (P := E.P) h3
  have e2 := valS_run w hck
  split at hs
  · simp at hs
  · rename_i hf
    simp only [Option.some.injEq, Prod.mk.injEq] at hs
    obtain ⟨rfl, rfl⟩ := hs
    rcases find_ok hf h4 h5 with ⟨_, e3⟩ | ⟨j, v', u', e1, _⟩
    · obtain ⟨w', r1, r2, r3⟩ := map_write h hi hbk (es' := es ++ [(vk, x)]) (ms' := ms ++ [⟨vk, vx, ck⟩]) (ck' := ck + 1) (by simp [h4]) (by
        rw [List.map_append, List.map_append]
        exact concL_append h5 (concL_cons.2 ⟨vx, [], hx, rfl, rfl⟩))
      refine ⟨rfl, w', ?_, r2, r3⟩
      unfold Instr.mapUpdate
      simp only [Sem.run_bind, run_underlying hu, Result.andThen_ok, e1, e2, run_find hd e3, List.push_toArray]
      exact r1
    · cases e1
  · rename_i j v0 hf
    rcases find_ok hf h4 h5 with ⟨e3, _⟩ | ⟨j', v', u', e3, e4, e5, e6⟩
    · cases e3
    · cases e3
      simp only [Nat.zero_add] at *
      split at hs
      case h_2 => simp at hs
      rename_i old vo hj
      cases hb : Instr.sameBits 10000 old vk with
      | false => rw [hb] at hs; simp at hs
      | true =>
        rw [hb] at hs
        simp only [cond_true, Option.some.injEq, Prod.mk.injEq] at hs
        obtain ⟨rfl, rfl⟩ := hs
        have hjm : j' < ms.length := by have := congrArg List.length h4; simp at this; omega
        have hkey : ms[j'].key = old := by
          have := congrArg (·[j']?) h4
          simp [hj, hjm] at this
          exact this
        obtain ⟨w', r1, r2, r3⟩ := map_write h hi hbk (es' := es.set j' (vk, x)) (ms' := ms.set j' { ms[j'] with key := vk, val := vx }) (ck' := ck) (by rw [List.map_set, List.map_set, h4]) (by
          rw [List.map_set, List.map_set]
          exact concL_set j' h5 hx)
        refine ⟨rfl, w', ?_, r2, r3⟩
        have hstay : (Instr.keyThatStays (((ms.toArray[j']?).map (·.key)).getD vk) vk).run E.P w = .ok vk w := by
          unfold Instr.keyThatStays
          rw [if_pos (by simp [hjm, hkey, hb])]
          rfl
        have hmod : (ms.toArray.modify j' fun e => { e with key := vk, val := vx }) = (ms.set j' { ms[j'] with key := vk, val := vx }).toArray := by
          apply Array.toList_inj.1
          simp only [Array.toList_modify]
          apply List.ext_getElem?
          intro n
          simp only [List.getElem?_modify, List.getElem?_set]
          by_cases hn : j' = n
          · subst hn; simp [hjm]
          · simp [hn]
        unfold Instr.mapUpdate
        simp only [Sem.run_bind, run_underlying hu, Result.andThen_ok, e1, e2, run_find hd e4, hstay, hmod]
        exact r1
theorem hrange_ok (h : Rel E W γ st w) (hx0 : st.x < 1000000000) {t : TypeId} {x r : AV} {v : Value} (hs : hRange E st t x = some (r, st')) (hx : conc γ x = some v) :
    ∃ γ' q w', (Instr.range t v).run E.P w = .ok q w' ∧ conc γ' r = some q ∧ Rel E W γ' st' w' ∧ Goes γ γ' st st' w w' := by
  unfold hRange at hs
  split at hs
  case h_2 => simp at hs
  rename_i kt et i hu
  split at hs
  case h_2 => simp at hs
  rename_i es hi
  simp only [Option.some.injEq, Prod.mk.injEq] at hs
  obtain ⟨rfl, rfl⟩ := hs
  obtain ⟨bk, hbk, rfl⟩ := conc_m hx
  obtain ⟨ms, ck, h3, _, _⟩ := map_at h hi hbk
  have hf := h.fresh st.x (Nat.le_refl _)
  obtain ⟨h1, h2⟩ := h.new (ob := .iter i) (w' := w.alloc (.mapIter (some bk.b) ck #[] ck)) (k := 0) (nl := none) (o := 0) hx0 (by simp) (fun k hk => heapK_old hk) rfl rfl rfl
    ⟨rfl, bk, ck, ck, nameB_ext hf _ _ _ hbk, heapK_new⟩
  refine ⟨_, .pointer (some ⟨w.heap.size, 0, none⟩), _, ?_, ?_, h1, h2⟩
  · unfold Instr.range
    simp only [Sem.run_bind, run_underlying hu, Result.andThen_ok, obj_run (P := E.P) h3, Sem.run_pure, newObj_run]
  · simp [conc, nameB_same]
theorem concL_erase : ∀ {l : List AV} {vs : List Value} (n : Nat), concL γ l = some vs → concL γ (l.eraseIdx n) = some (vs.eraseIdx n)
  | [], vs, n, h => by simp [concL] at h; subst h; simp [concL]
  | x :: l, vs, 0, h => by
    obtain ⟨v, r, hv, hr, rfl⟩ := concL_cons.1 h
    simpa using hr
  | x :: l, vs, n + 1, h => by
    obtain ⟨v, r, hv, hr, rfl⟩ := concL_cons.1 h
    exact concL_cons.2 ⟨v, _, hv, concL_erase n hr, rfl⟩
theorem map_erase {α β : Type} (f : α → β) : ∀ (l : List α) (n : Nat), (l.eraseIdx n).map f = (l.map f).eraseIdx n
  | [], n => by simp
  | x :: l, 0 => by simp
  | x :: l, n + 1 => by simp [map_erase f l n]
theorem hdelete_ok (h : Rel E W γ st w) {t : TypeId} {m k r : AV} {vm vk : Value} (hs : hDelete E st t m k = some (r, st')) (hm : conc γ m = some vm) (hk : conc γ k = some vk) (ts : List TypeId) (ty : TypeId) :
    r = .c undef ∧ ∃ w', (Builtin.delete_ (t :: ts).toArray ty #[vm, vk]).run E.P w = .ok undef w' ∧ Rel E W γ st' w' ∧ Goes γ γ st st' w w' := by
  unfold hDelete at hs
  split at hs
  case h_2 => simp at hs
  rename_i kt et i key hu
  cases conc_c hk
  split at hs
  case h_2 => simp at hs
  rename_i kd _ _ es hd hc1 hc2 hi
  obtain ⟨bk, hbk, rfl⟩ := conc_m hm
  obtain ⟨ms, ck, h3, h4, h5⟩ := map_at h hi hbk
  have e1 := obj_run (P := E.P) h3
  have e2 : ∀ b, (Instr.checkKey b 10000 kt vk).run E.P w = .ok () w := fun b => by
    cases b
    · exact valS_run w hc2
    · exact valS_run w hc1
  split at hs
  · simp at hs
  · rename_i hf
    simp only [Option.some.injEq, Prod.mk.injEq] at hs
    obtain ⟨rfl, rfl⟩ := hs
    rcases find_ok hf h4 h5 with ⟨_, e3⟩ | ⟨j, v', u', e1, _⟩
    · obtain ⟨w', r1, r2, r3⟩ := map_write h hi hbk (es' := es) (ms' := ms) (ck' := ck) h4 h5
      refine ⟨rfl, w', ?_, r2, r3⟩
      unfold Builtin.delete_
      simp [run_underlying hu, e1, e2, run_find hd e3, r1, undef]
    · cases e1
  · rename_i j v0 hf
    simp only [Option.some.injEq, Prod.mk.injEq] at hs
    obtain ⟨rfl, rfl⟩ := hs
    rcases find_ok hf h4 h5 with ⟨e3, _⟩ | ⟨j', v', u', e3, e4, e5, e6⟩
    · cases e3
    · cases e3
      rw [Nat.zero_add] at e4 ⊢
      obtain ⟨w', r1, r2, r3⟩ := map_write h hi hbk (es' := es.eraseIdx j') (ms' := ms.eraseIdx j') (ck' := ck) (by rw [map_erase, map_erase, h4]) (by rw [map_erase, map_erase]; exact concL_erase _ h5)
      refine ⟨rfl, w', ?_, r2, r3⟩
      have hmod : ms.toArray.eraseIdxIfInBounds j' = (ms.eraseIdx j').toArray := by
        apply Array.toList_inj.1
        simp
      unfold Builtin.delete_
      simp [run_underlying hu, e1, e2, run_find hd e4, hmod, r1, undef]
theorem hclear_ok (h : Rel E W γ st w) {t : TypeId} {x r : AV} {v : Value} (hs : hClear E st t x = some (r, st')) (hx : conc γ x = some v) (ty : TypeId) :
    r = .c undef ∧ ∃ w', (Builtin.clear_ #[t] ty #[v]).run E.P w = .ok undef w' ∧ Rel E W γ st' w' ∧ Goes γ γ st st' w w' := by
  unfold hClear at hs
  split at hs
  · rename_i kt et i hu
    split at hs
    case h_2 => simp at hs
    rename_i es hi
    simp only [Option.some.injEq, Prod.mk.injEq] at hs
    obtain ⟨rfl, rfl⟩ := hs
    obtain ⟨bk, hbk, rfl⟩ := conc_m hx
    obtain ⟨ms, ck, h3, _, _⟩ := map_at h hi hbk
    obtain ⟨w', r1, r2, r3⟩ := map_write h hi hbk (es' := []) (ms' := []) (ck' := ck) rfl rfl
    refine ⟨rfl, w', ?_, r2, r3⟩
    unfold Builtin.clear_
    simp [run_underlying hu, obj_run (P := E.P) h3, r1, undef]
  · rename_i e i o n _ _ hu
    obtain ⟨bk, hbk, rfl, _⟩ := conc_s hx
    rw [beq_dec] at hs
    by_cases hn : n = 0
    · subst hn
      simp only [decide_true, cond_true, Option.some.injEq, Prod.mk.injEq] at hs
      obtain ⟨rfl, rfl⟩ := hs
      refine ⟨rfl, w, ?_, h, Goes.refl h⟩
      unfold Builtin.clear_
      simp [run_underlying hu, undef]
    · simp only [decide_eq_false hn, cond_false] at hs
      split at hs
      case h_2 => simp at hs
      rename_i z hz
      simp only [Option.map_eq_some_iff, Prod.mk.injEq] at hs
      obtain ⟨st1, hw, rfl, rfl⟩ := hs
      obtain ⟨w', r1, r2, r3⟩ := wr_ok h hw (conc_zeros γ z.cells.toList n) hbk
      refine ⟨rfl, w', ?_, r2, r3⟩
      unfold Builtin.clear_
      obtain ⟨n, rfl⟩ : ∃ m, n = m + 1 := ⟨n - 1, by omega⟩
      simp only [List.getElem?_toArray, List.getElem?_cons_zero, Sem.run_bind, run_underlying hu, Result.andThen_ok, run_zero hz, run_zeroCells, r1, Sem.run_pure, undef]
  · rename_i hu
    simp only [Option.some.injEq, Prod.mk.injEq] at hs
    obtain ⟨rfl, rfl⟩ := hs
    cases conc_c hx
    refine ⟨rfl, w, ?_, h, Goes.refl h⟩
    unfold Builtin.clear_
    simp [run_underlying hu, undef]
  · rename_i hu
    simp only [Option.some.injEq, Prod.mk.injEq] at hs
    obtain ⟨rfl, rfl⟩ := hs
    obtain ⟨bk, hbk, rfl⟩ := conc_z hx
    refine ⟨rfl, w, ?_, h, Goes.refl h⟩
    unfold Builtin.clear_
    cases bk.nl <;> simp [run_underlying hu, undef]
  · rename_i hu
    simp only [Option.some.injEq, Prod.mk.injEq] at hs
    obtain ⟨rfl, rfl⟩ := hs
    obtain ⟨bk, hbk, rfl, _⟩ := conc_y hx
    refine ⟨rfl, w, ?_, h, Goes.refl h⟩
    unfold Builtin.clear_
    simp [run_underlying hu, undef]
  · simp at hs
theorem hcopy_ok (h : Rel E W γ st w) {t : TypeId} {d s r : AV} {vd vs : Value} (hs : hCopy E st t d s = some (r, st')) (hd : conc γ d = some vd) (hsv : conc γ s = some vs) (ts : List TypeId) (ty : TypeId) :
    ∃ q w', (Builtin.copy_ (t :: ts).toArray ty #[vd, vs]).run E.P w = .ok q w' ∧ conc γ r = some q ∧ Rel E W γ st' w' ∧ Goes γ γ st st' w w' := by
  unfold hCopy at hs
  split at hs
  case h_2 => simp at hs
  rename_i e i o n _ _ hu
  obtain ⟨bk, hbk, rfl, _⟩ := conc_s hd
  split at hs
  case h_2 => simp at hs
  rename_i z hz
  split at hs
  · rename_i j p m _ _
    obtain ⟨bj, hbj, rfl, _⟩ := conc_s hsv
    split at hs
    case h_2 => simp at hs
    rename_i l hr
    simp only [Option.map_eq_some_iff, Prod.mk.injEq] at hs
    obtain ⟨st1, hw, rfl, rfl⟩ := hs
    obtain ⟨bj', cs, hb', hc, hlen, hcell⟩ := rd_ok h hr
    rw [hbj] at hb'; cases hb'
    obtain ⟨w', r1, r2, r3⟩ := wr_ok h hw hc hbk
    refine ⟨goInt (Nat.min m n), w', ?_, rfl, r2, r3⟩
    unfold Builtin.copy_
    simp only [List.getElem?_toArray, List.getElem?_cons_zero, List.getElem?_cons_succ, Sem.run_bind, run_underlying hu, Result.andThen_ok, Builtin.lenOf, Sem.run_pure, run_sz hz, Builtin.firstCells, run_cells hcell hlen, r1]
  · rename_i c
    simp only [Option.some.injEq, Prod.mk.injEq] at hs
    obtain ⟨rfl, rfl⟩ := hs
    cases conc_c hsv
    refine ⟨goInt (0 : Nat), w, ?_, rfl, h, Goes.refl h⟩
    unfold Builtin.copy_
    simp [run_underlying hu, Builtin.lenOf, run_sz hz, Builtin.firstCells, storeCells]
  · simp only [Option.some.injEq, Prod.mk.injEq] at hs
    obtain ⟨rfl, rfl⟩ := hs
    obtain ⟨bj, hbj, rfl⟩ := conc_z hsv
    refine ⟨goInt (0 : Nat), w, ?_, rfl, h, Goes.refl h⟩
    unfold Builtin.copy_
    cases bj.nl <;> simp [run_underlying hu, Builtin.lenOf, run_sz hz, Builtin.firstCells, storeCells, loadCells, loadCellsFrom]
  · simp only [Option.some.injEq, Prod.mk.injEq] at hs
    obtain ⟨rfl, rfl⟩ := hs
    obtain ⟨bj, hbj, rfl, _⟩ := conc_y hsv
    refine ⟨goInt (0 : Nat), w, ?_, rfl, h, Goes.refl h⟩
    unfold Builtin.copy_
    simp [run_underlying hu, Builtin.lenOf, run_sz hz, Builtin.firstCells, storeCells, loadCells, loadCellsFrom]
  · simp at hs
end
end Go.Proofs.YtgpgmmkkmoecmaaGreatDoor

/- Closed calls, evaluated: append; every operation that calls nothing. Plain lemmas over the model; no program. -/
namespace Go.Proofs.YtgpgmmkkmoecmaaGreatDoor
open Go Go.RowKit

theorem growBy_le (n : Nat) : ∀ (r c : Nat), c ≤ 2 * n + 768 → Builtin.growBy n r c ≤ 2 * n + 768
  | 0, c, h => h
  | r + 1, c, h => by
    unfold Builtin.growBy
    split
    · exact h
    · exact growBy_le n r _ (by omega)
theorem nextcap_le {n c : Nat} (h : c < n) : Builtin.nextslicecap n c ≤ 2 * n + 768 := by
  unfold Builtin.nextslicecap
  split
  · omega
  · split
    · omega
    · exact growBy_le n 4 c (by omega)
section
variable {E : Ev} {W w w' : World} {γ γ' : Nm} {st st' : ES}
/-- What is appended. -/
def AppArg (P : Program) (i : TypeInfo) (z : Value) (d : TypeDesc) (vx : Value) (k : Nat) (new : List Value) (w : World) : Prop :=
  (∃ ik kk, d = .int ik ∧ vx = .int kk (k : Int) ∧ k ≤ 1000000 ∧ i.bytes ≤ 10000 ∧ new = (List.replicate k z.cells.toList).flatten) ∨
  ((∀ ik, d ≠ .int ik) ∧ (Builtin.lenOf vx).run P w = .ok k w ∧ ∀ w1, w1.heap = w.heap → (Builtin.firstCells i.size k vx).run P w1 = .ok new.toArray w1)
section
variable {P : Program} {t u ty e : TypeId} {d : TypeDesc} {i : TypeInfo} {z vx : Value} {base : Option Addr} {n cap k : Nat} {new : List Value}
theorem app_room (hu : P.underlying t = some (.slice e)) (hd : P.underlying u = some d) (hi : P.info? e = some i) (hz : i.zero = some z) (hzl : z.cells.size = i.size) (hx : AppArg P i z d vx k new w) (hle : n + k ≤ cap)
    (hst : ∀ a, base = some a → (storeCells (a.add (n * i.size)) new).run P w = .ok () w') (hn : base = none → w' = w) :
    (Builtin.append_ #[t, u] ty #[.slice base n cap, vx]).run P w = .ok (.slice base (n + k) cap) w' := by
  rcases hx with ⟨ik, kk, rfl, rfl, hk, hb, rfl⟩ | ⟨hd', hl, hf⟩
  · have hw := wrap_small (show k ≤ 1000000000 by omega)
    have h1 : ¬ ((k : Int) < 0) := by omega
    have h2 : ¬ (281474976710656 < (k : Int) * (i.bytes : Int)) := by
      have e1 : (k : Int) * (i.bytes : Int) = ((k * i.bytes : Nat) : Int) := by simp
      have e2 := Nat.mul_le_mul hk hb
      rw [e1]; omega
    have hap : ((if k * i.size = 0 then pure #[] else do pure (Builtin.zeroCells (← zeroValue e).cells k) : Sem (Array Value))).run P w = .ok (List.replicate k z.cells.toList).flatten.toArray w := by
      split
      · rename_i h0
        have : (List.replicate k z.cells.toList).flatten = [] := by
          apply List.eq_nil_of_length_eq_zero
          simp [hzl, h0]
        rw [this]; rfl
      · simp [zeroValue, typeInfo, hi, hz, run_zeroCells]
    have hsz : ∀ w, (sizeOf e).run P w = .ok i.size w := fun w => by simp [sizeOf, typeInfo, hi]
    have hti : ∀ w, (typeInfo e).run P w = .ok i w := fun w => by simp [typeInfo, hi]
    have h2' : ((k : Int) * (i.bytes : Int) > 2 ^ 48) = False := by
      have e3 : (2 : Int) ^ 48 = 281474976710656 := by decide
      rw [e3]; simpa using h2
    unfold Builtin.append_
    simp only [Nat.lt_add_one, Nat.reduceLT, List.size_toArray, List.length_cons, List.length_nil, Nat.reduceAdd, getElem?_pos, List.getElem_toArray, List.getElem_cons_zero, List.getElem_cons_succ, Sem.run_bind, run_underlying hu, run_underlying hd, Result.andThen_ok, Sem.run_pure, hsz, if_true, asInt, asIntOf, hw, h1, if_false, hti, h2', Int.toNat_natCast, if_pos hle, Bool.not_true, Bool.false_eq_true]
    rw [hap]
    simp only [Result.andThen_ok]
    cases base with
    | none => rw [hn rfl]; rfl
    | some a => simp only [Sem.run_bind, hst a rfl, Result.andThen_ok, Sem.run_pure]
  · have hsz : ∀ w, (sizeOf e).run P w = .ok i.size w := fun w => by simp [sizeOf, typeInfo, hi]
    have hf0 := hf w rfl
    unfold Builtin.append_
    cases d <;> first
      | exact absurd rfl (hd' _)
      | (simp only [Nat.lt_add_one, Nat.reduceLT, List.size_toArray, List.length_cons, List.length_nil, Nat.reduceAdd, getElem?_pos, List.getElem_toArray, List.getElem_cons_zero, List.getElem_cons_succ, Sem.run_bind, run_underlying hu, run_underlying hd, Result.andThen_ok, Sem.run_pure, hsz, Bool.false_eq_true, if_false, hl, if_pos hle, Bool.not_false, if_true, hf0]
         cases base with
         | none => rw [hn rfl]; rfl
         | some a => simp only [Sem.run_bind, hst a rfl, Result.andThen_ok, Sem.run_pure])
theorem app_grow (hu : P.underlying t = some (.slice e)) (hd : P.underlying u = some d) (hi : P.info? e = some i) (hz : i.zero = some z) (hzl : z.cells.size = i.size) (hx : AppArg P i z d vx k new w) (hgt : ¬ n + k ≤ cap) (hsm : n + k ≤ 1000000) (hby : i.bytes ≤ 10000) {old : List Value}
    (hold : ∀ w1, w1.heap = w.heap → (Builtin.firstCells i.size n (.slice base n cap)).run P w1 = .ok old.toArray w1) :
    ∃ c rest w', (Builtin.append_ #[t, u] ty #[.slice base n cap, vx]).run P w = .ok (.slice (some ⟨w.heap.size, 0, none⟩) (n + k) c) w' ∧ n + k ≤ c ∧ rest.length = (c - (n + k)) * i.size ∧ w'.heap = w.heap.push (.cells (old ++ (new ++ rest)).toArray e) ∧ w'.os = w.os ∧ w'.tape = w.tape ∧ w'.output = w.output := by
  have hsz : ∀ w, (sizeOf e).run P w = .ok i.size w := fun w => by simp [sizeOf, typeInfo, hi]
  have hti : ∀ w, (typeInfo e).run P w = .ok i w := fun w => by simp [typeInfo, hi]
  have hzr : ∀ w, (zeroValue e).run P w = .ok z w := fun w => by simp [zeroValue, typeInfo, hi, hz]
  have hq : ¬ Question.forced (.appendCap (n + k) cap e) = true := by simp [Question.forced]
  obtain ⟨c, hc⟩ : ∃ c, c = Question.cut (.appendCap (n + k) cap e) (w.tape w.drawn (.appendCap (n + k) cap e)) := ⟨_, rfl⟩
  have hck : n + k ≤ c := by rw [hc]; simp only [Question.cut]; omega
  have hch : (choose (.appendCap (n + k) cap e)).run P w = .ok c w.drew := by rw [run_choose, if_neg hq, ← hc]; rfl
  have hmax : ¬ (((n + k : Nat) : Int) > IntKind.i64.max) := by
    have : IntKind.i64.max = 9223372036854775807 := by decide
    rw [this]; omega
  have hnc : ¬ (Builtin.nextslicecap (n + k) cap * i.bytes > 2 ^ 48) := by
    have h1 := nextcap_le (show cap < n + k by omega)
    have h2 := Nat.mul_le_mul (show Builtin.nextslicecap (n + k) cap ≤ 2000768 by omega) hby
    have : (2 : Nat) ^ 48 = 281474976710656 := by decide
    omega
  have hrest : ((Builtin.zeroCells z.cells (c - (n + k))).toList).length = (c - (n + k)) * i.size := by rw [run_zeroCells]; simp [hzl]
  have hm1 : ∀ q : Prop, (((n + k : Nat) : Int) > IntKind.i64.max ∧ q) = False := fun q => by simp only [hmax, false_and]
  refine ⟨c, (Builtin.zeroCells z.cells (c - (n + k))).toList, w.drew.alloc (.cells (old ++ (new ++ (Builtin.zeroCells z.cells (c - (n + k))).toList)).toArray e), ?_, hck, hrest, rfl, rfl, rfl, rfl⟩
  have harr : ∀ a : Array Value, a.toList = new → old.toArray ++ a ++ Builtin.zeroCells z.cells (c - (n + k)) = (old ++ (new ++ (Builtin.zeroCells z.cells (c - (n + k))).toList)).toArray := fun a ha => by
    apply Array.toList_inj.1
    simp [ha]
  have hsize : w.drew.heap.size = w.heap.size := rfl
  rcases hx with ⟨ik, kk, rfl, rfl, hk, hb, rfl⟩ | ⟨hd', hl, hf⟩
  · have hw := wrap_small (show k ≤ 1000000000 by omega)
    have h1 : ¬ ((k : Int) < 0) := by omega
    have h2 : ((k : Int) * (i.bytes : Int) > 2 ^ 48) = False := by
      have e1 : (k : Int) * (i.bytes : Int) = ((k * i.bytes : Nat) : Int) := by simp
      have e2 := Nat.mul_le_mul hk hb
      have e3 : (2 : Int) ^ 48 = 281474976710656 := by decide
      rw [e1, e3]; simp only [eq_iff_iff, iff_false]; omega
    have hap : ((if k * i.size = 0 then pure #[] else do pure (Builtin.zeroCells (← zeroValue e).cells k) : Sem (Array Value))).run P w.drew = .ok (List.replicate k z.cells.toList).flatten.toArray w.drew := by
      split
      · rename_i h0
        have : (List.replicate k z.cells.toList).flatten = [] := by
          apply List.eq_nil_of_length_eq_zero
          simp [hzl, h0]
        rw [this]; rfl
      · simp [zeroValue, typeInfo, hi, hz, run_zeroCells]
    unfold Builtin.append_
    simp only [Nat.lt_add_one, Nat.reduceLT, List.size_toArray, List.length_cons, List.length_nil, Nat.reduceAdd, getElem?_pos, List.getElem_toArray, List.getElem_cons_zero, List.getElem_cons_succ, Sem.run_bind, run_underlying hu, run_underlying hd, Result.andThen_ok, Sem.run_pure, hsz, if_true, asInt, asIntOf, hw, h1, if_false, hti, h2, Int.toNat_natCast, if_neg hgt, Bool.not_true, Bool.false_eq_true, hm1, hnc, hch, run_askRoom, hold w.drew rfl]
    rw [hap]
    simp only [Result.andThen_ok, hzr, newRow, Sem.run_bind, newObj_run, Sem.run_pure, harr _ rfl, hsize]
  · unfold Builtin.append_
    have hf0 := hf w.drew rfl
    cases d <;> first
      | exact absurd rfl (hd' _)
      | simp only [Nat.lt_add_one, Nat.reduceLT, List.size_toArray, List.length_cons, List.length_nil, Nat.reduceAdd, getElem?_pos, List.getElem_toArray, List.getElem_cons_zero, List.getElem_cons_succ, Sem.run_bind, run_underlying hu, run_underlying hd, Result.andThen_ok, Sem.run_pure, hsz, if_true, Bool.false_eq_true, if_false, hl, hti, if_neg hgt, Bool.not_false, hm1, hnc, hch, run_askRoom, hold w.drew rfl, hf0, hzr, newRow, newObj_run, harr _ rfl, hsize]
end
/-- A block goes on under another name. -/
theorem Rel.rename (h : Rel E W γ st w) (hx : st.x < 1000000000) {i : Nat} {ob : AO} {bi : Bk} (hi : st.h.get i = some ob) (hb : γ i = some bi) (ho : ob.own = true) {h' : Tr AO} (hh : ∀ j, h'.get j = if j = st.x then some ob else if j = i then none else st.h.get j) :
    Rel E W (nameB γ st.x bi) ⟨h', st.x + 1⟩ w ∧ Goes γ (nameB γ st.x bi) st ⟨h', st.x + 1⟩ w w := by
  have hf := h.fresh st.x (Nat.le_refl _)
  have hext := nameB_ext hf bi
  have hlt := h.lt hi
  obtain ⟨bk0, g1, g2, g3, g4⟩ := h.has i ob hi
  rw [hb] at g1; cases g1
  refine ⟨⟨fun j hj => ?_, hx, fun g hg' => ?_, fun j oj hj => ?_, fun a b oa ob' ba bb h1 h2 h3 h4 h5 h6 => ?_, h.old⟩, ⟨hext, fun j hj hn => by unfold nameB; rw [if_neg (by omega)]; exact hn, Nat.le_succ _, Nat.le_refl _, fun _ _ _ => rfl, fun j hj hn => ?_, fun j oj bj hj hbj => ?_⟩⟩
  · unfold nameB
    rw [if_neg (by simp only at hj; omega)]
    exact h.fresh j (by simp only at hj; omega)
  · obtain ⟨k', nl', e⟩ := h.glob g hg'
    exact ⟨k', nl', hext _ _ e⟩
  · simp only [hh] at hj
    split at hj
    · rename_i e
      subst e
      cases hj
      exact ⟨_, nameB_same, g2, AO.at_ext hext g3, g4⟩
    · split at hj
      · cases hj
      · obtain ⟨bk, h1, h2, h3, h4⟩ := h.has j oj hj
        exact ⟨bk, hext _ _ h1, h2, AO.at_ext hext h3, h4⟩
  · simp only [hh] at h1 h2
    have back : ∀ {j : Nat} {oj : AO} {bj : Bk}, st.h.get j = some oj → nameB γ st.x bi j = some bj → γ j = some bj := fun hj hbj => by
      obtain ⟨bk, e1, _⟩ := h.has _ _ hj
      rw [hext _ _ e1] at hbj; cases hbj
      exact e1
    split at h1
    · rename_i e
      subst e
      cases h1
      rw [nameB_same] at h4; cases h4
      split at h2
      · rename_i e2; exact e2.symm
      · split at h2
        · cases h2
        · rename_i hne
          exact absurd (h.inj i b ob ob' bi bb hi h2 ho hb (back h2 h5) h6).symm hne
    · split at h1
      · cases h1
      · rename_i hne1
        split at h2
        · rename_i e
          subst e
          cases h2
          rw [nameB_same] at h5; cases h5
          exact absurd (h.inj a i oa ob ba bi h1 hi h3 (back h1 h4) hb h6) hne1
        · split at h2
          · cases h2
          · exact h.inj _ _ _ _ _ _ h1 h2 h3 (back h1 h4) (back h2 h5) h6
  · simp only [hh]
    rw [if_neg (by omega)]
    split
    · rfl
    · exact hn
  · simp only [hh] at hj
    split at hj
    · rename_i e; subst e
      rw [nameB_same] at hbj; cases hbj
      cases hj
      exact .inr ⟨i, ob, bi, hi, hb, rfl, fun h => h⟩
    · split at hj
      · cases hj
      · obtain ⟨bk, e1, e2, _⟩ := h.has j oj hj
        rw [hext _ _ e1] at hbj; cases hbj
        exact .inr ⟨j, oj, _, hj, e1, rfl, fun h => h⟩
theorem grown_ok (h : Rel E W γ st w) (hx0 : st.x < 1000000000) {e : TypeId} {l : List AV} {cs : List Value} {n c : Nat} {rest : List Value} {i : TypeInfo} (hi : E.P.info? e = some i) (hl : concL γ l = some cs) (hn : cs.length = n * i.size) (hr : rest.length = (c - n) * i.size) (hnc : n ≤ c)
    (hw : w'.heap = w.heap.push (.cells (cs ++ rest).toArray e)) (ho : w'.os = w.os) (ht : w'.tape = w.tape) (hp : w'.output = w.output) :
    ∃ γ', conc γ' (newGrown st e l n).1 = some (.slice (some ⟨w.heap.size, 0, none⟩) n c) ∧ Rel E W γ' (newGrown st e l n).2 w' ∧ Goes γ γ' st (newGrown st e l n).2 w w' := by
  have hf := h.fresh st.x (Nat.le_refl _)
  obtain ⟨h1, h2⟩ := h.new (ob := .cells l e true) (w' := w') (k := c) (nl := none) (o := 0) hx0 (by rw [hw]; simp) (fun k hk => by rw [hw, Array.getElem?_push, if_neg (by omega)]) ho ht hp
    ⟨rfl, rfl, cs, rest, concL_ext (nameB_ext hf _) l hl, by rw [hw]; simp, (fun h => by cases h), fun _ => ⟨i, hi, by
      rw [List.length_append, hn, hr, ← Nat.add_mul]
      show (n + (c - n)) * i.size = c * i.size
      congr 1; omega⟩⟩
  refine ⟨_, ?_, h1, h2⟩
  simp only [newGrown]
  rw [conc_s_mk nameB_same (fun _ => by simp only; omega)]
  simp
theorem appendA_ok (h : Rel E W γ st w) (hx0 : st.x < 1000000000) {t u e ty : TypeId} {d : TypeDesc} {i : TypeInfo} {z : Value} {s r : AV} {vs vx : Value} {k : Nat} {l : List AV} {new : List Value}
    (hu : E.P.underlying t = some (.slice e)) (hd : E.P.underlying u = some d) (hi : E.P.info? e = some i) (hz : i.zero = some z) (hzl : z.cells.size = i.size) (hone : 1 ≤ i.size) (hx : AppArg E.P i z d vx k new w) (hsm : lenA s + k ≤ 1000000) (hby : i.bytes ≤ 10000)
    (hl : concL γ l = some new) (hlen : new.length = k * i.size) (hs : conc γ s = some vs) (ha : appendA st e i.size s k l = some (r, st')) :
    ∃ γ' q w', (Builtin.append_ #[t, u] ty #[vs, vx]).run E.P w = .ok q w' ∧ conc γ' r = some q ∧ Rel E W γ' st' w' ∧ Goes γ γ' st st' w w' := by
  have nil0 : k = 0 → new = [] := fun h0 => List.eq_nil_of_length_eq_zero (by rw [hlen, h0]; simp)
  unfold appendA at ha
  split at ha
  · rename_i i0 o n rr c
    cases hc : (rr || Nat.ble n c) with
    | false => rw [hc] at ha; simp at ha
    | true =>
      rw [hc] at ha
      simp only [cond_true, Option.some.injEq, Prod.mk.injEq] at ha
      obtain ⟨rfl, rfl⟩ := ha
      obtain ⟨bk, hbk, rfl, hk⟩ := conc_s hs
      have hle : n + 0 ≤ (bif rr then bk.k - c else c) := by
        cases rr with
        | true => have := hk rfl; simp only [cond_true]; omega
        | false => exact ble_le hc
      exact ⟨γ, _, w, app_room hu hd hi hz hzl hx hle (fun a _ => by rw [nil0 rfl]; rfl) (fun _ => rfl), hs, h, Goes.refl h⟩
  · simp only [Option.some.injEq, Prod.mk.injEq] at ha
    obtain ⟨rfl, rfl⟩ := ha
    obtain ⟨bk, hbk, rfl⟩ := conc_z hs
    exact ⟨γ, _, w, app_room hu hd hi hz hzl hx (Nat.zero_le _) (fun a _ => by rw [nil0 rfl]; rfl) (fun _ => rfl), hs, h, Goes.refl h⟩
  · simp only [Option.some.injEq, Prod.mk.injEq] at ha
    obtain ⟨rfl, rfl⟩ := ha
    obtain ⟨bk, hbk, rfl, _⟩ := conc_y hs
    exact ⟨γ, _, w, app_room hu hd hi hz hzl hx (Nat.zero_le _) (fun a _ => by rw [nil0 rfl]; rfl) (fun _ => rfl), hs, h, Goes.refl h⟩
  · simp only [Option.some.injEq, Prod.mk.injEq] at ha
    obtain ⟨rfl, rfl⟩ := ha
    cases conc_c hs
    exact ⟨γ, _, w, app_room hu hd hi hz hzl hx (Nat.le_refl _) (fun a _ => by rw [nil0 rfl]; rfl) (fun _ => rfl), rfl, h, Goes.refl h⟩
  · rename_i k'
    simp only [Option.some.injEq] at ha
    cases conc_c hs
    obtain ⟨c, rest, w', r1, r2, r3, r4, r5, r6, r7⟩ := app_grow (ty := ty) (base := none) (n := 0) (cap := 0) hu hd hi hz hzl hx (by omega) (by omega) hby (old := []) (fun w1 _ => rfl)
    rw [Nat.zero_add] at *
    obtain ⟨γ', g1, g2, g3⟩ := grown_ok h hx0 (w' := w') hi hl hlen r3 r2 (by simpa using r4) r5 r6 r7
    rw [ha] at g1 g2 g3
    exact ⟨γ', _, w', r1, g1, g2, g3⟩
  · rename_i k' i0 o n c
    obtain ⟨bk, hbk, rfl, _⟩ := conc_s hs
    simp only [cond_false] at *
    simp only [lenA] at hsm
    cases hc : Nat.ble (n + (k' + 1)) c with
    | true =>
      simp only [Nat.succ_eq_add_one] at ha hsm hx hlen
      rw [hc] at ha
      simp only [cond_true, Option.map_eq_some_iff, Prod.mk.injEq] at ha
      obtain ⟨st1, hw, rfl, rfl⟩ := ha
      obtain ⟨w', r1, r2, r3⟩ := wr_ok h hw hl hbk
      refine ⟨γ, _, w', app_room hu hd hi hz hzl hx (ble_le hc) (fun a hb => ?_) (fun hb => by cases hb), ?_, r2, r3⟩
      · cases hb
        rw [Addr.add_lit, Nat.add_assoc]; exact r1
      · rw [conc_s_mk hbk (fun h => by cases h)]; rfl
    | false =>
      simp only [Nat.succ_eq_add_one] at ha hsm hx hlen
      rw [hc] at ha
      simp only [cond_false, Option.map_eq_some_iff] at ha
      obtain ⟨l0, hr, he⟩ := ha
      obtain ⟨bk', cs, hb', h2, h3, h4⟩ := rd_ok h hr
      rw [hbk] at hb'; cases hb'
      have hgt : ¬ n + (k' + 1) ≤ c := fun hle => by rw [show Nat.ble (n + (k' + 1)) c = true from Nat.ble_eq_true_of_le hle] at hc; cases hc
      obtain ⟨cc, rest, w', r1, r2, r3, r4, r5, r6, r7⟩ := app_grow (ty := ty) (base := some ⟨bk.b, bk.o + o, none⟩) (n := n) (cap := c) hu hd hi hz hzl hx hgt hsm hby (old := cs) (fun w1 hw1 => run_cells (fun j v hj => by have := h4 j v hj; unfold World.cell? at *; rw [hw1]; exact this) h3)
      obtain ⟨γ', g1, g2, g3⟩ := grown_ok h hx0 (w' := w') (l := l0 ++ l) (cs := cs ++ new) (n := n + (k' + 1)) hi (concL_append h2 hl) (by rw [List.length_append, h3, hlen]; exact (Nat.add_mul _ _ _).symm) r3 r2 (by rw [r4]; simp) r5 r6 r7
      rw [he] at g1 g2 g3
      exact ⟨γ', _, w', r1, g1, g2, g3⟩
  · rename_i k' i0 o n c
    obtain ⟨bk, hbk, rfl, hk⟩ := conc_s hs
    have hk := hk rfl
    simp only [cond_true] at *
    simp only [lenA] at hsm
    simp only [Nat.succ_eq_add_one] at ha hsm hx hlen
    rw [beq_dec] at ha
    by_cases ho : o = c * i.size
    case neg => simp [ho] at ha
    simp only [ho, decide_true, cond_true] at ha
    split at ha
    case h_2 => simp at ha
    rename_i l0 e' hget
    rw [beq_dec] at ha
    by_cases he : e' = e
    case neg => simp [he] at ha
    subst he
    simp only [decide_true, cond_true] at ha
    obtain ⟨bk', b1, b2, b3, b4⟩ := h.has i0 _ hget
    rw [hbk] at b1; cases b1
    obtain ⟨k1, k2, cs, ex, k3, k4, _, k6⟩ := b3
    obtain ⟨ti, t1, t2⟩ := k6 rfl
    rw [hi] at t1; cases t1
    have hl0 := concL_len k3
    have hnl := concL_len hl
    cases hc : Nat.ble (c * i.size + (n + (k' + 1)) * i.size) l0.length with
    | true =>
      rw [hc] at ha
      simp only [cond_true, Option.map_eq_some_iff, Prod.mk.injEq] at ha
      obtain ⟨st1, hw, rfl, rfl⟩ := ha
      obtain ⟨w', r1, r2, r3⟩ := wr_ok h hw hl hbk
      have hcap : c + (n + (k' + 1)) ≤ bk.k := by
        have h1 := ble_le hc
        rw [← Nat.add_mul] at h1
        have h2 : (c + (n + (k' + 1))) * i.size ≤ bk.k * i.size := by rw [← t2, List.length_append]; omega
        exact Nat.le_of_mul_le_mul_right h2 (by omega)
      refine ⟨γ, _, w', app_room hu hd hi hz hzl hx (cap := bk.k - c) (by omega) (fun a hb => ?_) (fun hb => by cases hb), ?_, r2, r3⟩
      · cases hb
        rw [Addr.add_lit, Nat.add_assoc, ho]; exact r1
      · rw [conc_s_mk hbk (fun _ => by omega), ho]; rfl
    | false =>
      rw [hc] at ha
      simp only [cond_false] at ha
      cases hc2 : (Nat.beq c 0 && (Nat.beq (n * i.size) l0.length && l.all AV.flat)) with
      | false => rw [hc2] at ha; simp at ha
      | true =>
        rw [hc2] at ha
        simp only [cond_true, Option.some.injEq] at ha
        simp only [Bool.and_eq_true] at hc2
        have hc0 := Nat.eq_of_beq_eq_true hc2.1
        have hn0 := Nat.eq_of_beq_eq_true hc2.2.1
        subst hc0
        simp only [Nat.zero_mul] at ho
        subst ho
        simp only [Nat.sub_zero, Nat.add_zero] at *
        by_cases hroom : n + (k' + 1) ≤ bk.k
        · have hsz : n * i.size + (k' + 1) * i.size ≤ bk.k * i.size := by rw [← Nat.add_mul]; exact Nat.mul_le_mul_right _ hroom
          obtain ⟨w', r1, r2, r3, r4, r5, r6, r7⟩ := store_run (P := E.P) (o := bk.o + n * i.size) new 0 _ w k4 (by rw [k1]; simp only [List.size_toArray, t2]; omega) (flats_one hc2.2.2 hl)
          have hlt := h.lt hget
          have hsmall := h.small
          have hob : AO.at_ E.P γ bk w' (.cells (l0 ++ l) e' true) := by
            refine ⟨k1, k2, cs ++ new, ex.drop ((k' + 1) * i.size), concL_append k3 hl, ?_, fun h => (by cases h), fun _ => ⟨i, hi, ?_⟩⟩
            · rw [r2]
              congr 2
              apply Array.toList_inj.1
              simp only [k1, Nat.zero_add, Nat.add_zero, hlen]
              rw [hn0, ← hl0, List.take_left, List.append_assoc]
              congr 2
              rw [← List.drop_drop, List.drop_left]
            · simp only [List.length_append, List.length_drop] at t2 ⊢
              omega
          obtain ⟨g1, g2⟩ := h.write hget rfl hbk (ob := .cells (l0 ++ l) e' true) rfl r3 r4 r5 r6 r7 hob
          have hg1 : ∀ j, (st.h.put i0 (some (.cells (l0 ++ l) e' true))).get j = if j = i0 then some (.cells (l0 ++ l) e' true) else st.h.get j := fun j => Tr.get_put (by omega)
          obtain ⟨g3, g4⟩ := g1.rename hx0 (i := i0) (ob := .cells (l0 ++ l) e' true) (bi := bk) (by simp only [hg1]; simp) hbk rfl (h' := ((st.h.put i0 none).put st.x (some (.cells (l0 ++ l) e' true)))) (fun j => by
            rw [Tr.get_put hx0, Tr.get_put (by omega)]
            simp only [hg1]
            by_cases e1 : j = st.x
            · simp [e1]
            · by_cases e2 : j = i0 <;> simp [e1, e2])
          simp only [newGrown, Prod.mk.injEq] at ha
          obtain ⟨rfl, rfl⟩ := ha
          refine ⟨_, _, w', app_room hu hd hi hz hzl hx hroom (fun a hb => ?_) (fun hb => by cases hb), ?_, g3, g2.trans g4⟩
          · cases hb
            rw [Addr.add_lit]; exact r1
          · rw [conc_s_mk nameB_same (fun _ => by omega)]; rfl
        · obtain ⟨cc, rest, w', r1, r2, r3, r4, r5, r6, r7⟩ := app_grow (ty := ty) (base := some ⟨bk.b, bk.o, none⟩) (n := n) (cap := bk.k) hu hd hi hz hzl hx hroom hsm hby (old := cs) (fun w1 hw1 => run_cells (fun j v hj => by
            unfold World.cell?
            have hjl := (List.getElem?_eq_some_iff.1 hj).1
            simp only [hw1, k4, k1, Nat.zero_add]
            simp [List.getElem?_append, hjl]
            simpa [hjl] using hj) (by rw [hl0, hn0]))
          obtain ⟨g1, g2⟩ := h.kill hget
          obtain ⟨γ', g3, g4, g5⟩ := grown_ok g1 hx0 (w' := w') (l := l0 ++ l) (cs := cs ++ new) (n := n + (k' + 1)) hi (concL_append k3 hl) (by rw [List.length_append, hl0, ← hn0, hlen]; exact (Nat.add_mul _ _ _).symm) r3 r2 (by rw [r4]; simp) r5 r6 r7
          rw [ha] at g3 g4 g5
          exact ⟨γ', _, w', r1, g3, g4, g2.trans g5⟩
  · simp at ha
theorem more_ok (h : Rel E W γ st w) {zz : Nat} {x : AV} {vx : Value} {k : Nat} {l : List AV} (hm : moreA st zz x = some (k, l)) (hx : conc γ x = some vx) :
    ∃ new, concL γ l = some new ∧ (Builtin.lenOf vx).run E.P w = .ok k w ∧ ∀ w1, w1.heap = w.heap → (Builtin.firstCells zz k vx).run E.P w1 = .ok new.toArray w1 := by
  unfold moreA at hm
  split at hm
  · rename_i i o n _ _
    simp only [Option.map_eq_some_iff, Prod.mk.injEq] at hm
    obtain ⟨l', hr, rfl, rfl⟩ := hm
    obtain ⟨bk, hbk, rfl, _⟩ := conc_s hx
    obtain ⟨bk', cs, hb', h2, h3, h4⟩ := rd_ok h hr
    rw [hbk] at hb'; cases hb'
    exact ⟨cs, h2, rfl, fun w1 hw1 => run_cells (fun j v hj => by have := h4 j v hj; unfold World.cell? at *; rw [hw1]; exact this) h3⟩
  · simp only [Option.some.injEq, Prod.mk.injEq] at hm
    obtain ⟨rfl, rfl⟩ := hm
    obtain ⟨bk, hbk, rfl⟩ := conc_z hx
    refine ⟨[], rfl, rfl, fun w1 hw1 => ?_⟩
    cases bk.nl <;> simp [Builtin.firstCells, loadCells, loadCellsFrom]
  · simp only [Option.some.injEq, Prod.mk.injEq] at hm
    obtain ⟨rfl, rfl⟩ := hm
    obtain ⟨bk, hbk, rfl, _⟩ := conc_y hx
    refine ⟨[], rfl, rfl, fun w1 hw1 => ?_⟩
    simp [Builtin.firstCells, loadCells, loadCellsFrom]
  · simp only [Option.some.injEq, Prod.mk.injEq] at hm
    obtain ⟨rfl, rfl⟩ := hm
    cases conc_c hx
    exact ⟨[], rfl, rfl, fun w1 hw1 => rfl⟩
  · rename_i b
    simp only [Option.some.injEq, Prod.mk.injEq] at hm
    obtain ⟨rfl, rfl⟩ := hm
    cases conc_c hx
    have hsz : b.data.toList.length = b.size := Array.length_toList
    refine ⟨b.data.toList.map fun x => .int .u8 x.toNat, ?_, ?_, fun w1 hw1 => ?_⟩
    · have := concL_c (γ := γ) (b.data.toList.map fun x => Value.int .u8 x.toNat)
      rw [List.map_map] at this
      exact this
    · show Result.ok b.size w = Result.ok b.data.toList.length w
      rw [hsz]
    · have e : b.extract 0 b.data.toList.length = b := by rw [hsz]; exact ByteArray.extract_zero_size
      simp only [Builtin.firstCells, Sem.run_pure, e]
      congr 1
      apply Array.toList_inj.1
      simp
  · simp at hm
theorem happend_ok (h : Rel E W γ st w) (hx0 : st.x < 1000000000) {t u ty : TypeId} {s x r : AV} {vs vx : Value} (ha : hAppend E st t u s x = some (r, st')) (hs : conc γ s = some vs) (hx : conc γ x = some vx) :
    ∃ γ' q w', (Builtin.append_ #[t, u] ty #[vs, vx]).run E.P w = .ok q w' ∧ conc γ' r = some q ∧ Rel E W γ' st' w' ∧ Goes γ γ' st st' w w' := by
  unfold hAppend at ha
  split at ha
  case h_2 => simp at ha
  rename_i e d hu hd
  split at ha
  case h_2 => simp at ha
  rename_i i hi
  split at ha
  case h_2 => simp at ha
  rename_i z hz
  cases hb : (Nat.beq z.cells.toList.length i.size && (Nat.ble 1 i.size && Nat.ble i.bytes 10000)) with
  | false => rw [hb] at ha; simp at ha
  | true =>
    rw [hb] at ha
    simp only [cond_true] at ha
    simp only [Bool.and_eq_true] at hb
    have hzl := Nat.eq_of_beq_eq_true hb.1
    simp only [Array.length_toList] at hzl
    have hone := ble_le hb.2.1
    have hby := ble_le hb.2.2
    split at ha
    · rename_i ik
      split at ha
      case h_2 => simp at ha
      rename_i k hk
      cases hc : Nat.ble (lenA s + k) 1000000 with
      | false => rw [hc] at ha; simp at ha
      | true =>
        rw [hc] at ha
        simp only [cond_true] at ha
        have hsm := ble_le hc
        obtain ⟨kk, rfl⟩ := nat_ok hk hx
        exact appendA_ok h hx0 hu hd hi hz hzl hone (.inl ⟨ik, kk, rfl, rfl, by omega, hby, rfl⟩) hsm hby (conc_zeros γ z.cells.toList k) (by simp [hzl]) hs ha
    · rename_i hne
      split at ha
      case h_2 => simp at ha
      rename_i k l hm
      cases hc : (Nat.ble (lenA s + k) 1000000 && Nat.beq l.length (k * i.size)) with
      | false => rw [hc] at ha; simp at ha
      | true =>
        rw [hc] at ha
        simp only [cond_true] at ha
        simp only [Bool.and_eq_true] at hc
        have hsm := ble_le hc.1
        have hll := Nat.eq_of_beq_eq_true hc.2
        obtain ⟨new, h1, h2, h3⟩ := more_ok h hm hx
        exact appendA_ok h hx0 hu hd hi hz hzl hone (.inr ⟨fun ik e => hne ik e, h2, h3⟩) hsm hby h1 (by rw [concL_len h1, hll]) hs ha
theorem two_args' {ρA : Operand → AV} {args : List Operand} {x : AV} (hx : args.map ρA = [x]) : ∃ a, args = [a] ∧ x = ρA a := by
  cases args with
  | nil => simp at hx
  | cons y l => cases l with
    | nil => simp at hx; exact ⟨y, rfl, hx.symm⟩
    | cons => simp at hx
theorem hbuiltin_ok (h : Rel E W γ st w) (hx0 : st.x < 1000000000) {ρA : Operand → AV} {ρ : Operand → Value} (hρ : ∀ x, conc γ (ρA x) = some (ρ x)) {ty : TypeId} {b : Builtin} {args : Array Operand} {ts : Array TypeId} {r : AV} (hb : hBuiltin E st b (args.toList.map ρA) ts.toList = some (r, st')) (cs : Array Bool) :
    ∃ γ' q w', (builtin b ts ty cs (args.map ρ)).run E.P w = .ok (.value q) w' ∧ conc γ' r = some q ∧ Rel E W γ' st' w' ∧ Goes γ γ' st st' w w' := by
  obtain ⟨args⟩ := args
  obtain ⟨ts⟩ := ts
  unfold hBuiltin at hb
  split at hb
  · rename_i s x t u hx ht
    obtain ⟨a, b, rfl, rfl, rfl⟩ := two_args hx
    simp only at ht
    subst ht
    obtain ⟨γ', q, w', h1, h2, h3, h4⟩ := happend_ok (ty := ty) h hx0 hb (hρ a) (hρ b)
    have e : (⟨[a, b]⟩ : Array Operand).map ρ = #[ρ a, ρ b] := by simp
    exact ⟨γ', q, w', by rw [e]; simp only [builtin, Sem.run_bind, h1, Result.andThen_ok, Sem.run_pure], h2, h3, h4⟩
  · rename_i d s t ts' hx ht
    obtain ⟨a, b, rfl, rfl, rfl⟩ := two_args hx
    simp only at ht
    subst ht
    obtain ⟨q, w', h1, h2, h3, h4⟩ := hcopy_ok h hb (hρ a) (hρ b) ts' ty
    have e : (⟨[a, b]⟩ : Array Operand).map ρ = #[ρ a, ρ b] := by simp
    exact ⟨γ, q, w', by rw [e]; simp only [builtin, Sem.run_bind, h1, Result.andThen_ok, Sem.run_pure], h2, h3, h4⟩
  · rename_i x t hx ht
    obtain ⟨a, rfl, rfl⟩ := two_args' hx
    simp only at ht
    subst ht
    obtain ⟨rfl, w', h1, h3, h4⟩ := hclear_ok h hb (hρ a) ty
    have e : (⟨[a]⟩ : Array Operand).map ρ = #[ρ a] := by simp
    exact ⟨γ, undef, w', by rw [e]; simp only [builtin, Sem.run_bind, h1, Result.andThen_ok, Sem.run_pure], rfl, h3, h4⟩
  · rename_i m k t ts' hx ht
    obtain ⟨a, b, rfl, rfl, rfl⟩ := two_args hx
    simp only at ht
    subst ht
    obtain ⟨rfl, w', h1, h3, h4⟩ := hdelete_ok h hb (hρ a) (hρ b) ts' ty
    have e : (⟨[a, b]⟩ : Array Operand).map ρ = #[ρ a, ρ b] := by simp
    exact ⟨γ, undef, w', by rw [e]; simp only [builtin, Sem.run_bind, h1, Result.andThen_ok, Sem.run_pure], rfl, h3, h4⟩
  · simp at hb
theorem heavy_ok (h : Rel E W γ st w) (hx0 : st.x < 1000000000) {ρA : Operand → AV} {ρ : Operand → Value} (hρ : ∀ x, conc γ (ρA x) = some (ρ x)) {o : Oper} {r : AV} (he : evHeavy E st ρA o.op = some (r, st')) : Does E W γ st w r st' ((execOp ρ o).run E.P w) := by
  obtain ⟨dst, op, ty, pos, after, guard⟩ := o
  cases op <;> simp only [evHeavy] at he
  case store t a x =>
    obtain ⟨rfl, w', h1, h2, h3⟩ := hstore_ok h he (hρ a) (hρ x)
    exact Does.skip (w' := w') (by simp only [execOp, Sem.run_bind, h1, Result.andThen_ok, Sem.run_pure]) rfl h2 h3
  case mapUpdate t m k v =>
    obtain ⟨rfl, w', h1, h2, h3⟩ := hupdate_ok h he (hρ m) (hρ k) (hρ v)
    exact Does.skip (w' := w') (by simp only [execOp, Sem.run_bind, h1, Result.andThen_ok, Sem.run_pure]) rfl h2 h3
  case insert t m k v =>
    obtain ⟨rfl, w', h1, h2, h3⟩ := hupdate_ok h he (hρ m) (hρ k) (hρ v)
    exact Does.skip (w' := w') (by simp only [execOp, Sem.run_bind, h1, Result.andThen_ok, Sem.run_pure]) rfl h2 h3
  case range t x =>
    obtain ⟨γ', q, w', h1, h2, h3, h4⟩ := hrange_ok h hx0 he (hρ x)
    exact Does.val (w' := w') (by simp only [execOp, Sem.run_bind, h1, Result.andThen_ok, Sem.run_pure]) h2 h3 h4
  case call c =>
    obtain ⟨callee, args, ts⟩ := c
    cases callee with
    | builtin b =>
      simp only at he
      obtain ⟨γ', q, w', h1, h2, h3, h4⟩ := hbuiltin_ok (ty := ty) h hx0 hρ he (args.map fun | .const _ => true | _ => false)
      exact Does.val (w' := w') (by simp only [execOp, resolve, invoke, Sem.run_bind, Sem.run_pure, Result.andThen_ok]; exact h1) h2 h3 h4
    | _ => simp at he
  all_goals simp at he
/-- Every operation that calls nothing. -/
theorem op_ok (h : Rel E W γ st w) {ρA : Operand → AV} {ρ : Operand → Value} (hρ : ∀ x, conc γ (ρA x) = some (ρ x)) {o : Oper} {r : AV} (he : evOp E ρA o.type st o.op = some (r, st')) : Does E W γ st w r st' ((execOp ρ o).run E.P w) := by
  unfold evOp at he
  split at he
  · rename_i v hp
    simp only [Option.some.injEq, Prod.mk.injEq] at he
    obtain ⟨rfl, rfl⟩ := he
    obtain ⟨q, h1, h2⟩ := pure_ok h.glob hρ hp w
    exact Does.val h1 h2 h (Goes.refl h)
  · split at he
    · rename_i v hp
      simp only [Option.some.injEq, Prod.mk.injEq] at he
      obtain ⟨rfl, rfl⟩ := he
      obtain ⟨q, h1, h2⟩ := load_ok h hρ hp
      exact Does.val h1 h2 h (Goes.refl h)
    · cases hb : Nat.blt st.x 1000000000 with
      | false => rw [hb] at he; simp at he
      | true =>
        rw [hb] at he
        simp only [cond_true] at he
        have hx0 := blt_lt hb
        split at he
        · rename_i v ob hn
          simp only [Option.some.injEq, Prod.mk.injEq] at he
          obtain ⟨rfl, rfl⟩ := he
          obtain ⟨hown, q, obj, k, h1, h2⟩ := new_ok h hρ hn
          obtain ⟨h3, h4⟩ := h2 (nameB γ st.x ⟨w.heap.size, 0, k, none⟩) (nameB_ext (h.fresh _ (Nat.le_refl _)) _) nameB_same
          obtain ⟨h5, h6⟩ := h.new (ob := ob) (w' := w.alloc obj) (k := k) (nl := none) (o := 0) hx0 (by simp) (fun k hk => heapK_old hk) rfl rfl rfl (h4 _ (heapK_new))
          exact Does.val h1 h3 h5 h6
        · exact heavy_ok h hx0 hρ he
end
end Go.Proofs.YtgpgmmkkmoecmaaGreatDoor

/- Closed calls, evaluated: frames; regions in the order of their text; calls. Plain lemmas over the model; no program. -/
namespace Go.Proofs.YtgpgmmkkmoecmaaGreatDoor
open Go Go.RowKit

section
variable {E : Ev} {W w w' : World} {γ γ' : Nm} {st st' : ES} {n : Nat} {tm tm' : Tr AV} {a : Act}
/-- A frame's temporaries are as told. -/
structure FrR (n : Nat) (γ : Nm) (tm : Tr AV) (a : Act) : Prop where
  size : a.tmps.size = n
  small : n ≤ 1000000
  defers : a.defers = []
  tmps : ∀ t : Nat, conc γ (aev tm (.tmp t)) = some (a.tmps.getD t undef)
  out : ∀ t : Nat, n ≤ t → tm.get t = none
theorem FrR.ext (h : FrR n γ tm a) (hx : Ext γ γ') : FrR n γ' tm a := ⟨h.size, h.small, h.defers, fun t => conc_ext hx _ (h.tmps t), h.out⟩
theorem FrR.eval (h : FrR n γ tm a) (x : Operand) : conc γ (aev tm x) = some (a.eval x) := by
  cases x with
  | tmp t => exact h.tmps t
  | const v => rfl
  | global g => rfl
  | func f => rfl
theorem aev_put {t j : Nat} {v : AV} (ht : t < 1000000000) : aev (tm.put t (some v)) (.tmp j) = if j = t then v else aev tm (.tmp j) := by
  simp only [aev, Tr.get_put ht]
  by_cases h : j = t
  · simp [h]
  · simp [h]
theorem FrR.put (h : FrR n γ tm a) {dst : Option Tmp} {v : AV} {q : Value} (hp : putA n tm dst v = some tm') (hv : conc γ v = some q) : FrR n γ tm' (a.put dst q) := by
  unfold putA at hp
  cases dst with
  | none =>
    simp only [Option.some.injEq] at hp
    subst hp
    exact h
  | some d =>
    simp only at hp
    cases hb : Nat.blt d n with
    | false => rw [hb] at hp; simp at hp
    | true =>
      rw [hb] at hp
      simp only [cond_true, Option.some.injEq] at hp
      subst hp
      have hd := blt_lt hb
      have hs := h.small
      refine ⟨by simp [Act.put, h.size], h.small, h.defers, fun t => ?_, fun t ht => ?_⟩
      · rw [aev_put (by omega)]
        by_cases e : t = d
        · subst e
          simp [Act.put, h.size, hd, hv]
        · rw [if_neg e, h.tmps t]
          simp [Act.put, Array.getElem?_setIfInBounds_ne (Ne.symm e)]
      · rw [Tr.get_put (by omega), if_neg (by omega)]
        exact h.out t ht
theorem yield_at {t : Nat} (hs : a.tmps.size = n) (ht : conc γ (aev tm (.tmp t)) = some (a.tmps.getD t undef)) (ho : n ≤ t → tm.get t = none) :
    (match tm.get t with | some (.c (.bool b)) => some b | _ => none : Option Bool) = (match a.tmps[t]? with | some (.bool b) => some b | _ => none) := by
  rcases Nat.lt_or_ge t n with hlt | hge
  · have hg : a.tmps[t]? = some (a.tmps.getD t undef) := by
      have : t < a.tmps.size := by rw [hs]; exact hlt
      simp [this]
    rw [hg]
    simp only [aev] at ht
    cases hm : tm.get t with
    | none =>
      rw [hm] at ht
      simp only [conc, Option.some.injEq] at ht
      rw [← ht]; rfl
    | some v =>
      rw [hm] at ht
      simp only at ht
      by_cases hc : ∃ u, v = .c u
      · obtain ⟨u, rfl⟩ := hc
        simp only [conc, Option.some.injEq] at ht
        rw [← ht]
        cases u <;> rfl
      · have := (conc_sz ht (fun u e => hc ⟨u, e⟩)).2.2.2.2
        generalize a.tmps.getD t undef = u at *
        have e1 : (match some v with | some (.c (.bool b)) => some b | _ => none : Option Bool) = none := by
          cases v <;> first | rfl | exact absurd ⟨_, rfl⟩ hc
        have e2 : (match some u with | some (.bool b) => some b | _ => none : Option Bool) = none := by
          cases u <;> first | rfl | exact absurd rfl (this _)
        exact e1.trans e2.symm
  · have hg : a.tmps[t]? = none := Array.getElem?_eq_none (by rw [hs]; exact hge)
    rw [hg, ho hge]
theorem yield_ok (h : FrR n γ tm a) (ops : Array Oper) (j : Nat) : yieldA ops tm j = yielded ops a.tmps j := by
  unfold yieldA yielded
  cases hd : (ops[j]?).bind (·.dst) with
  | none => rfl
  | some t =>
    simp only [Option.bind_some]
    exact yield_at h.size (h.tmps t) (h.out t)
theorem wanted_ok (h : FrR n γ tm a) (ops : Array Oper) (o : Oper) : Region.wanted o (yieldA ops tm) = Region.wanted o (yielded ops a.tmps) := by
  unfold Region.wanted
  split
  · rfl
  · rw [yield_ok h]
/-- The call returns, and this. -/
def Ok (E : Ev) (W : World) (γ : Nm) (st : ES) (w : World) (r : AV) (st' : ES) (e : Ending) (w' : World) : Prop := ∃ q γ', e = .returned q ∧ conc γ' r = some q ∧ Rel E W γ' st' w' ∧ Goes γ γ' st st' w w'
def CallS (E : Ev) (W : World) (call : Nat → List AV → ES → Option (AV × ES)) : Prop := ∀ f args st r st', call f args st = some (r, st') → (∃ fn, E.P.funcs[f]? = some fn ∧ fn.body.isSome = true) ∧
  ∀ γ w vs, Rel E W γ st w → concL γ args = some vs → Calls E.P f vs.toArray w (Ok E W γ st w r st')
/-- No function with a body is one that the model knows by name. -/
def Plain (P : Program) : Prop := ∀ (f : Nat) (fn : Func), P.funcs[f]? = some fn → (fn.name == "runtime.NumGoroutine") = false
theorem called_ok (hP : Plain E.P) {ρA : Operand → AV} {ρ : Operand → Value} (hρ : ∀ x, conc γ (ρA x) = some (ρ x)) {o : Oper} {f : Nat} {args : List AV} (hc : calledA ρA o.op = some (f, args)) (hfn : ∃ fn, E.P.funcs[f]? = some fn ∧ fn.body.isSome = true) (w : World) :
    ∃ vs, concL γ args = some vs ∧ (execOp ρ o).run E.P w = .ok (.enter f vs.toArray) w := by
  obtain ⟨dst, op, ty, pos, after, guard⟩ := o
  obtain ⟨fn, h1, h2⟩ := hfn
  have hcf : ∀ vs : Array Value, (callFunc f vs).run E.P w = .ok (.enter f vs) w := fun vs => by
    have hb : fn.body.isNone = false := by cases hbo : fn.body with
      | none => rw [hbo] at h2; cases h2
      | some _ => rfl
    unfold callFunc
    simp only [Sem.run_bind, run_program, Result.andThen_ok, h1, hP f fn h1, hb, Bool.false_eq_true, if_false, Sem.run_pure]
  cases op <;> simp only [calledA] at hc <;> try (simp at hc; done)
  rename_i c
  obtain ⟨callee, cargs, ts⟩ := c
  cases callee with
  | value fo =>
    simp only at hc
    have hfo := hρ fo
    have hargs : concL γ (cargs.toList.map ρA) = some (cargs.toList.map ρ) := concL_map hρ _
    unfold funcA at hc
    split at hc
    · rename_i k first caps hk
      rw [hk] at hfo
      obtain ⟨us, ws, h3, h4, h5⟩ := conc_func hfo
      simp only [Option.some.injEq, Prod.mk.injEq] at hc
      obtain ⟨rfl, rfl⟩ := hc
      refine ⟨us ++ (cargs.toList.map ρ ++ ws), concL_append h3 (concL_append hargs h4), ?_⟩
      simp only [execOp, resolve, Sem.run_bind, Sem.run_pure, Result.andThen_ok, h5, Deferred.ofValue, invoke, hcf]
      congr 2
      apply Array.toList_inj.1
      simp
    · rename_i k first caps hk
      rw [hk] at hfo
      have h5 := conc_c hfo
      simp only [Option.some.injEq, Prod.mk.injEq] at hc
      obtain ⟨rfl, rfl⟩ := hc
      refine ⟨first.toList ++ (cargs.toList.map ρ ++ caps.toList), concL_append (concL_c _) (concL_append hargs (concL_c _)), ?_⟩
      simp only [execOp, resolve, Sem.run_bind, Sem.run_pure, Result.andThen_ok, h5, Deferred.ofValue, invoke, hcf]
      congr 2
      apply Array.toList_inj.1
      simp
    · simp at hc
  | _ => simp at hc
/-- One operation, a call or not. -/
theorem exec_ok (hP : Plain E.P) {call : Nat → List AV → ES → Option (AV × ES)} (hC : CallS E W call) {Q : Exit → Act → World → Prop} {K : Act → World → Prop} (h : Rel E W γ st w) {ρA : Operand → AV} (hρ : ∀ x, conc γ (ρA x) = some (a.eval x)) {o : Oper} {r : AV} (he : execA E call ρA o.type st o.op = some (r, st'))
    (hK : ∀ γ' q w', conc γ' r = some q → Rel E W γ' st' w' → Goes γ γ' st st' w w' → K (a.put o.dst q) w') : o.wp E.P a w K Q := by
  unfold execA at he
  unfold Oper.wp
  split at he
  · rename_i f args hc
    obtain ⟨hfn, hcall⟩ := hC f args st r st' he
    obtain ⟨vs, h1, h2⟩ := called_ok hP hρ hc hfn w
    rw [h2]
    refine Calls.mono (hcall γ w vs h h1) fun e w' hok => ?_
    obtain ⟨q, γ', rfl, h3, h4, h5⟩ := hok
    exact hK γ' q w' h3 h4 h5
  · obtain ⟨γ', q, w', hr, h3, h4, h5⟩ := op_ok h hρ he
    rcases hr with hr | ⟨hr, rfl⟩
    · rw [hr]; exact hK γ' q w' h3 h4 h5
    · rw [hr]; exact hK γ' undef w' h3 h4 h5
theorem ops_ok (hP : Plain E.P) {call : Nat → List AV → ES → Option (AV × ES)} (hC : CallS E W call) {Q : Exit → Act → World → Prop} (ops : Array Oper) : ∀ (l : List Oper) (tm : Tr AV) (st : ES) (γ : Nm) (a : Act) (w : World), opsA (execA E call) ops n l tm st = some (tm', st') → Rel E W γ st w → FrR n γ tm a →
    (∀ γ' a' w', Rel E W γ' st' w' → FrR n γ' tm' a' → Goes γ γ' st st' w w' → Q .normal a' w') → wpList E.P ops Q l a w
  | [], tm, st, γ, a, w, he, h, hf, hQ => by
    simp only [opsA, Option.some.injEq, Prod.mk.injEq] at he
    obtain ⟨rfl, rfl⟩ := he
    exact hQ γ a w h hf (Goes.refl h)
  | o :: l, tm, st, γ, a, w, he, h, hf, hQ => by
    simp only [opsA] at he
    unfold wpList
    rw [wanted_ok hf] at he
    cases hw : Region.wanted o (yielded ops a.tmps) with
    | true =>
      rw [hw] at he
      simp only [cond_true] at he
      rw [if_pos rfl]
      split at he
      · simp at he
      · rename_i v st1 hex
        split at he
        · simp at he
        · rename_i tm1 hput
          refine .inl (exec_ok hP hC h (fun x => hf.eval x) hex fun γ1 q w1 h1 h2 h3 => ?_)
          exact ops_ok hP hC ops l tm1 st1 γ1 _ w1 he h2 ((hf.ext h3.ext).put hput h1) fun γ2 a2 w2 g1 g2 g3 => hQ γ2 a2 w2 g1 g2 (h3.trans g3)
    | false =>
      rw [hw] at he
      simp only [cond_false] at he
      rw [if_neg (by simp)]
      split at he
      · simp at he
      · rename_i tm1 hput
        exact ops_ok hP hC ops l tm1 st γ _ w he h (hf.put hput rfl) hQ
def exitOf : AX → Exit
  | .normal => .normal
  | .exit id => .exit id
  | .goto l => .goto l
  | .ret => .ret
def RunS (E : Ev) (W : World) (run : Nat → Code → Tr AV → ES → Option (AX × Tr AV × ES)) : Prop := ∀ n c tm st x tm' st', run n c tm st = some (x, tm', st') → ∀ γ a w Q, Rel E W γ st w → FrR n γ tm a →
  (∀ γ' a' w', Rel E W γ' st' w' → FrR n γ' tm' a' → Goes γ γ' st st' w w' → Q (exitOf x) a' w') → c.wp E.P Q a w
theorem init_ok : ∀ (args : List AV) (vs : List Value) (k : Nat) (tm : Tr AV), concL γ args = some vs → k + args.length ≤ 1000000 → ∀ t : Nat, conc γ (aev (initA args k tm) (.tmp t)) = (if k ≤ t ∧ t < k + args.length then vs[t - k]? else conc γ (aev tm (.tmp t))) ∧ (k + args.length ≤ t → (initA args k tm).get t = tm.get t)
  | [], vs, k, tm, h, hk, t => by
    refine ⟨?_, fun _ => rfl⟩
    rw [if_neg (by rintro ⟨h1, h2⟩; simp only [List.length_nil] at h2; omega)]
    rfl
  | v :: args, vs, k, tm, h, hk, t => by
    obtain ⟨u, r, hu, hr, rfl⟩ := concL_cons.1 h
    simp only [List.length_cons] at hk ⊢
    obtain ⟨h1, h2⟩ := init_ok args r (k + 1) (tm.put k (some v)) hr (by omega) t
    refine ⟨?_, fun ht => ?_⟩
    · show conc γ (aev (initA args (k + 1) (tm.put k (some v))) (.tmp t)) = _
      rw [h1, aev_put (by omega)]
      by_cases e : t = k
      · subst e
        rw [if_neg (by omega), if_pos rfl, if_pos (by omega), hu]
        simp
      · by_cases e2 : k + 1 ≤ t ∧ t < k + 1 + args.length
        · rw [if_pos e2, if_pos (by omega)]
          obtain ⟨d, rfl⟩ : ∃ d, t = k + 1 + d := ⟨t - (k + 1), by omega⟩
          rw [show k + 1 + d - (k + 1) = d by omega, show k + 1 + d - k = d + 1 by omega]
          simp
        · rw [if_neg e2, if_neg e, if_neg (by omega)]
    · rw [show initA (v :: args) k tm = initA args (k + 1) (tm.put k (some v)) from rfl, h2 (by omega), Tr.get_put (by omega), if_neg (by omega)]
def resultS (tmps : Array Value) : ResultVar → Sem Value
  | .tmp t => pure (tmps.getD t undef)
  | .cell a t => do loadVar t (← asAddr (tmps.getD a undef))
theorem res_ok (h : Rel E W γ st w) (hf : FrR n γ tm a) : ∀ {l : List ResultVar} {rs : List AV}, resA E st tm l = some rs → ∃ vs, (l.mapM (resultS a.tmps)).run E.P w = .ok vs w ∧ concL γ rs = some vs
  | [], rs, hr => by
    simp only [resA, Option.some.injEq] at hr
    subst hr
    exact ⟨[], rfl, rfl⟩
  | .tmp t :: l, rs, hr => by
    simp only [resA, Option.map_eq_some_iff] at hr
    obtain ⟨r, hr, rfl⟩ := hr
    obtain ⟨vs, h1, h2⟩ := res_ok h hf hr
    have h3 : (resultS a.tmps (.tmp t)).run E.P w = .ok (a.tmps.getD t undef) w := rfl
    exact ⟨a.tmps.getD t undef :: vs, by simp only [List.mapM_cons, Sem.run_bind, h3, h1, Result.andThen_ok, Sem.run_pure], concL_cons.2 ⟨_, _, hf.tmps t, h2, rfl⟩⟩
  | .cell p t :: l, rs, hr => by
    simp only [resA] at hr
    split at hr
    · rename_i v r hv hr2
      simp only [Option.some.injEq] at hr
      subst hr
      obtain ⟨vs, h1, h2⟩ := res_ok h hf hr2
      obtain ⟨ad, q, e1, e2, e3⟩ := ld_ok h hv (hf.tmps p)
      have h3 : (resultS a.tmps (.cell p t)).run E.P w = .ok q w := by
        simp only [resultS, e1, asAddr, Sem.run_bind, Sem.run_pure, Result.andThen_ok, e2]
      exact ⟨q :: vs, by simp only [List.mapM_cons, Sem.run_bind, h3, h1, Result.andThen_ok, Sem.run_pure], concL_cons.2 ⟨_, _, e3, h2, rfl⟩⟩
    · simp at hr
theorem result_ok (h : Rel E W γ st w) (hf : FrR n γ tm a) {fn : Func} {r : AV} (hr : resultA E fn st tm = some r) : ∃ q, (results fn a.tmps).run E.P w = .ok q w ∧ conc γ r = some q := by
  unfold resultA at hr
  split at hr
  · simp at hr
  all_goals
    rename_i hres
    obtain ⟨vs, h1, h2⟩ := res_ok h hf hres
    have hm : (fn.results.mapM (resultS a.tmps)).run E.P w = .ok vs.toArray w := by
      rw [Array.mapM_eq_mapM_toList]
      show (Functor.map List.toArray (List.mapM (resultS a.tmps) fn.results.toList)).run E.P w = _
      simp [h1]
    have hm2 : (results fn a.tmps).run E.P w = .ok (if h : vs.toArray.size = 1 then vs.toArray[0] else .tuple vs.toArray) w := by
      show ((fn.results.mapM (resultS a.tmps) >>= fun vs => pure (if h : vs.size = 1 then vs[0] else .tuple vs)) : Sem Value).run E.P w = _
      simp only [Sem.run_bind, hm, Result.andThen_ok, Sem.run_pure]
  · simp only [Option.some.injEq] at hr
    subst hr
    obtain ⟨v, r, hv, hr, rfl⟩ := concL_cons.1 h2
    simp only [concL, Option.some.injEq] at hr
    subst hr
    exact ⟨v, hm2, hv⟩
  · rename_i l hne
    simp only [Option.some.injEq] at hr
    subst hr
    refine ⟨.tuple vs.toArray, ?_, by simp [conc, h2]⟩
    rw [hm2, dif_neg]
    intro he
    have hl := concL_len h2
    simp only [List.size_toArray] at he
    obtain ⟨x, rfl⟩ := List.length_eq_one_iff.1 (hl.symm.trans he)
    exact hne x rfl
theorem enter_ok {run : Nat → Code → Tr AV → ES → Option (AX × Tr AV × ES)} (hR : RunS E W run) {f : Nat} {fn : Func} (hf : E.P.funcs[f]? = some fn) {args : List AV} {r : AV} (he : enterA E fn run args st = some (r, st')) (h : Rel E W γ st w) {vs : List Value} (hv : concL γ args = some vs) :
    fn.body.isSome = true ∧ Calls E.P f vs.toArray w (Ok E W γ st w r st') := by
  unfold enterA at he
  split at he
  · simp at he
  · rename_i c hb
    cases hc : (Nat.ble args.length fn.ntmps && Nat.ble fn.ntmps 1000000) with
    | false => rw [hc] at he; simp at he
    | true =>
      rw [hc] at he
      simp only [cond_true] at he
      simp only [Bool.and_eq_true] at hc
      have hl1 := ble_le hc.1
      have hl2 := ble_le hc.2
      have hlen := concL_len hv
      refine ⟨by rw [hb]; rfl, calls_of_wp hf hb ?_⟩
      have hfr : FrR fn.ntmps γ (initA args 0 .e) { tmps := vs.toArray ++ Array.replicate (fn.ntmps - vs.toArray.size) undef, defers := [] } := by
        refine ⟨by simp; omega, hl2, rfl, fun t => ?_, fun t ht => ?_⟩
        · rw [(init_ok args vs 0 .e hv (by omega) t).1]
          by_cases ht : t < args.length
          · rw [if_pos (by omega)]
            simp [Array.getElem?_append, hlen, ht]
          · rw [if_neg (by omega)]
            have : aev .e (.tmp t) = .c undef := rfl
            rw [this]
            simp only [conc, Option.some.injEq]
            simp only [Array.getD_eq_getD_getElem?, Array.getElem?_append, List.size_toArray, hlen]
            rw [if_neg ht]
            by_cases ht2 : t - args.length < fn.ntmps - args.length
            · simp [ht2]
            · simp [ht2]
        · rw [(init_ok args vs 0 .e hv (by omega) t).2 (by omega)]; rfl
      split at he
      · rename_i tm1 st1 hrun
        simp only [Option.map_eq_some_iff, Prod.mk.injEq] at he
        obtain ⟨v, hres, rfl, rfl⟩ := he
        refine hR _ _ _ _ _ _ _ hrun γ _ w _ h hfr fun γ' a' w' g1 g2 g3 => ?_
        obtain ⟨q, h1, h2⟩ := result_ok g1 g2 hres
        exact ⟨g2.defers, q, h1, q, γ', rfl, h2, g1, g3⟩
      · rename_i tm1 st1 hrun
        simp only [Option.map_eq_some_iff, Prod.mk.injEq] at he
        obtain ⟨v, hres, rfl, rfl⟩ := he
        refine hR _ _ _ _ _ _ _ hrun γ _ w _ h hfr fun γ' a' w' g1 g2 g3 => ?_
        obtain ⟨q, h1, h2⟩ := result_ok g1 g2 hres
        exact ⟨g2.defers, q, h1, q, γ', rfl, h2, g1, g3⟩
      · simp at he
/-- What is answered otherwise is right. -/
def OvS (E : Ev) (W : World) : Prop := ∀ f args st r st', E.ov f args st = some (some (r, st')) → (∃ fn, E.P.funcs[f]? = some fn ∧ fn.body.isSome = true) ∧
  ∀ γ w vs, Rel E W γ st w → concL γ args = some vs → Calls E.P f vs.toArray w (Ok E W γ st w r st')
theorem call_ok (hO : OvS E W) {run : Nat → Code → Tr AV → ES → Option (AX × Tr AV × ES)} (hR : RunS E W run) : CallS E W (callA E run) := by
  intro f args st r st' hc
  unfold callA at hc
  split at hc
  · rename_i r0 hov
    subst hc
    exact hO f args st r st' hov
  · split at hc
    · simp at hc
    · rename_i fn hf
      have hbody : fn.body.isSome = true := by
        unfold enterA at hc
        split at hc
        · simp at hc
        · rename_i hb; rw [hb]; rfl
      exact ⟨⟨fn, hf, hbody⟩, fun γ w vs h hv => (enter_ok hR hf hc h hv).2⟩
end
end Go.Proofs.YtgpgmmkkmoecmaaGreatDoor

/- Closed calls, evaluated: regions that draw their order. Plain lemmas over the model; no program. -/
namespace Go.Proofs.YtgpgmmkkmoecmaaGreatDoor
open Go Go.RowKit

section
variable {E : Ev} {W w w' : World} {γ γ' : Nm} {g gV gT g' : Nat → Option AO} {x x' : Nat}
theorem RelG.sub (h : RelG E W γ g x w) (hs : ∀ i ob, gV i = some ob → g i = some ob) : RelG E W γ gV x w :=
  ⟨h.fresh, h.small, h.glob, fun i ob hi => h.has i ob (hs i ob hi), fun i j oi oj bi bj h1 h2 => h.inj i j oi oj bi bj (hs _ _ h1) (hs _ _ h2), h.old⟩
/-- What an operation that saw less did, with what it did not see. -/
theorem frame_step (hS : RelG E W γ g x w) (hs : ∀ i ob, gV i = some ob → g i = some ob) (hT : RelG E W γ' gT x' w') (hG : GoesG γ γ' gV gT x x' w w')
    (h1 : ∀ i ob, g i = some ob → gV i = none → g' i = some ob) (h2 : ∀ i, (g i = none ∨ gV i ≠ none) → g' i = gT i) : RelG E W γ' g' x' w' ∧ GoesG γ γ' g g' x x' w w' := by
  have case : ∀ i ob, g' i = some ob → (g i = some ob ∧ gV i = none) ∨ gT i = some ob := fun i ob hi => by
    by_cases hc : g i = none ∨ gV i ≠ none
    · exact .inr (by rw [← h2 i hc]; exact hi)
    · refine .inl ?_
      cases hgi : g i with
      | none => exact absurd (.inl hgi) hc
      | some o =>
        have hv : gV i = none := Classical.byContradiction fun hne => hc (.inr hne)
        rw [h1 i o hgi hv] at hi
        exact ⟨hi, hv⟩
  have back : ∀ i ob bk, g i = some ob → γ' i = some bk → γ i = some bk := fun i ob bk hi hb => by
    obtain ⟨bk', e1, _⟩ := hS.has i ob hi
    rw [hG.ext _ _ e1] at hb; cases hb
    exact e1
  have xt : ∀ {i j oi oj bi bj}, g i = some oi → gV i = none → γ' i = some bi → gT j = some oj → γ' j = some bj → (oi.own = true ∨ oj.own = true) → bi.b = bj.b → False := fun {i j oi oj bi bj} a1 a2 a3 a4 a5 a6 a7 => by
    have e1 := back i oi bi a1 a3
    obtain ⟨bk, e2, e3, _⟩ := hS.has i oi a1
    rw [e1] at e2; cases e2
    rcases hG.from_ j oj bj a4 a5 with e4 | ⟨l, ol, bl, e4, e5, e6, e7⟩
    · omega
    · rcases a6 with a6 | a6
      · have := hS.inj i l oi ol bi bl a1 (hs _ _ e4) a6 e1 e5 (by omega)
        subst this
        rw [a2] at e4; cases e4
      · have := hS.inj l i ol oi bl bi (hs _ _ e4) a1 (e7 a6) e5 e1 (by omega)
        subst this
        rw [a2] at e4; cases e4
  refine ⟨⟨hT.fresh, hT.small, hT.glob, fun i ob hi => ?_, fun i j oi oj bi bj hi hj ho hbi hbj he => ?_, hT.old⟩, ⟨hG.ext, hG.keep, hG.nx, hG.size, fun k hk hn => hG.frame k hk fun i ob bk hi => hn i ob bk (hs i ob hi), fun i hi hn => ?_, fun i ob bk hi hb => ?_⟩⟩
  · rcases case i ob hi with ⟨a1, a2⟩ | a1
    · obtain ⟨bk, e1, e2, e3, e4⟩ := hS.has i ob a1
      refine ⟨bk, hG.ext _ _ e1, Nat.lt_of_lt_of_le e2 hG.size, AO.at_congr (hG.frame _ e2 fun j oj bj b1 b2 b3 b4 => ?_) (AO.at_ext hG.ext e3), e4⟩
      have := hS.inj j i oj ob bj bk (hs _ _ b1) a1 b3 b2 e1 b4
      subst this
      rw [a2] at b1; cases b1
    · exact hT.has i ob a1
  · rcases case i oi hi with ⟨a1, a2⟩ | a1 <;> rcases case j oj hj with ⟨b1, b2⟩ | b1
    · exact hS.inj i j oi oj bi bj a1 b1 ho (back _ _ _ a1 hbi) (back _ _ _ b1 hbj) he
    · exact (xt a1 a2 hbi b1 hbj (.inl ho) he).elim
    · exact (xt b1 b2 hbj a1 hbi (.inr ho) he.symm).elim
    · exact hT.inj i j oi oj bi bj a1 b1 ho hbi hbj he
  · rw [h2 i (.inl hn)]
    refine hG.dom i hi ?_
    cases hv : gV i with
    | none => rfl
    | some o => rw [hs _ _ hv] at hn; cases hn
  · rcases case i ob hi with ⟨a1, a2⟩ | a1
    · exact .inr ⟨i, ob, bk, a1, back _ _ _ a1 hb, rfl, fun h => h⟩
    · rcases hG.from_ i ob bk a1 hb with e1 | ⟨j, oj, bj, e1, e2, e3, e4⟩
      · exact .inl e1
      · exact .inr ⟨j, oj, bj, hs _ _ e1, e2, e3, e4⟩
/-- A new block, under a name that was kept for it. -/
theorem new_at {ob : AO} (h : RelG E W γ g x w) {i : Nat} (hi : i < x) (hn : γ i = none) {bk : Bk} (hb : bk.b = w.heap.size) (hs : w.heap.size < w'.heap.size) (hk : ∀ k, k < w.heap.size → w'.heap[k]? = w.heap[k]?) (ho : w'.os = w.os) (ht : w'.tape = w.tape) (hp : w'.output = w.output)
    (ha : ob.at_ E.P (nameB γ i bk) bk w') (hg : ∀ j, g' j = if j = i then some ob else g j) : RelG E W (nameB γ i bk) g' x w' ∧ Ext γ (nameB γ i bk) := by
  have hext := nameB_ext hn bk
  have hold := h.old.size
  refine ⟨⟨fun j hj => ?_, h.small, fun y hy => ?_, fun j oj hj => ?_, fun a b oa ob' ba bb h1 h2 h3 h4 h5 h6 => ?_, ?_⟩, hext⟩
  · unfold nameB
    rw [if_neg (by omega)]
    exact h.fresh j hj
  · obtain ⟨k', nl', e⟩ := h.glob y hy
    exact ⟨k', nl', hext _ _ e⟩
  · rw [hg] at hj
    split at hj
    · rename_i e
      subst e
      cases hj
      exact ⟨_, nameB_same, by omega, ha, fun _ => by omega⟩
    · obtain ⟨bj, h1, h2, h3, h4⟩ := h.has j oj hj
      exact ⟨bj, hext _ _ h1, by omega, AO.at_congr (hk _ h2) (AO.at_ext hext h3), h4⟩
  · rw [hg] at h1 h2
    split at h1
    · rename_i e
      subst e
      split at h2
      · rename_i e2; exact e2.symm
      · obtain ⟨bj, e1, e2, _⟩ := h.has b ob' h2
        rw [hext _ _ e1] at h5; cases h5
        rw [nameB_same] at h4; cases h4
        omega
    · obtain ⟨bj, e1, e2, _⟩ := h.has a oa h1
      rw [hext _ _ e1] at h4; cases h4
      split at h2
      · rename_i e
        subst e
        rw [nameB_same] at h5; cases h5
        omega
      · obtain ⟨bk', e1', e2', _⟩ := h.has b ob' h2
        rw [hext _ _ e1'] at h5; cases h5
        exact h.inj _ _ _ _ _ _ h1 h2 h3 e1 e1' h6
  · exact ⟨ho.trans h.old.os, ht.trans h.old.tape, hp.trans h.old.output, by omega, fun k hk' => (hk k (by omega)).trans (h.old.block k hk')⟩
end
/-! ### What the evaluation of such a region says -/
structure DS where
  tm : Tr AV
  T : ES
  nw : List (Nat × AO)
  ld : List (Nat × Tr AV × Op × AV)
  hs : List (Nat × ES)
structure Oc where
  k : Nat
  v : AV
  ob : AO
  T : ES
theorem bif_some {α : Type} {b : Bool} {x : Option α} {r : α} (h : (bif b then x else none) = some r) : b = true ∧ x = some r := by cases b <;> simp_all
section
variable (E : Ev) (call : Nat → List AV → ES → Option (AV × ES)) (ops : Array Oper) (n x0 : Nat) (anc : Array Nat)
/-- One operation's part. k: 0: it only computes, or is not wanted; 1: it reads; 2: a new block; 3: anything else. -/
def StepP (j : Nat) (q : Oper) (s : DS) (o : Oc) (s' : DS) : Prop :=
  putA n s.tm q.dst o.v = some s'.tm ∧
  ((o.k = 0 ∧ ((Region.wanted q (yieldA ops s.tm) = false ∧ o.v = .c undef) ∨ (Region.wanted q (yieldA ops s.tm) = true ∧ evPure E (aev s.tm) q.type q.op = some o.v)) ∧ s'.T = s.T ∧ s'.nw = s.nw ∧ s'.ld = s.ld ∧ s'.hs = s.hs) ∨
   (o.k = 1 ∧ Region.wanted q (yieldA ops s.tm) = true ∧ evLoad E (addN x0 (ancB anc j) s.T s.nw) (aev s.tm) q.op = some o.v ∧ (∀ i Tb, (i, Tb) ∈ s.hs → ancB anc j i = true ∨ sameO (evLoad E Tb (aev s.tm) q.op) o.v = true) ∧ s'.T = s.T ∧ s'.nw = s.nw ∧ s'.ld = (j, s.tm, q.op, o.v) :: s.ld ∧ s'.hs = s.hs) ∨
   (o.k = 2 ∧ Region.wanted q (yieldA ops s.tm) = true ∧ evNew E (aev s.tm) (x0 + j) q.op = some (o.v, o.ob) ∧ s'.T = s.T ∧ s'.nw = (j, o.ob) :: s.nw ∧ s'.ld = s.ld ∧ s'.hs = s.hs) ∨
   (o.k = 3 ∧ Region.wanted q (yieldA ops s.tm) = true ∧ execA E call (aev s.tm) q.type (addN x0 (ancB anc j) s.T s.nw) q.op = some (o.v, o.T) ∧ (∀ i Tb, (i, Tb) ∈ s.hs → ancB anc j i = true) ∧
     (∀ k tk op u, (k, tk, op, u) ∈ s.ld → ancB anc j k = true ∨ sameO (evLoad E o.T (aev tk) op) u = true) ∧ s'.T = o.T ∧ s'.nw = s.nw.filter (fun p => !ancB anc j p.1) ∧ s'.ld = s.ld ∧ s'.hs = (j, s.T) :: s.hs))
theorem draw_steps : ∀ (l : List Oper) (i : Nat) (s : DS) (tm' : Tr AV) (st' : ES), drawA E call ops n x0 anc l i s.tm s.T s.nw s.ld s.hs = some (tm', st') →
    ∃ (S : Nat → DS) (O : Nat → Oc), S i = s ∧ (∀ k q, l[k]? = some q → StepP E call ops n x0 anc (i + k) q (S (i + k)) (O (i + k)) (S (i + k + 1))) ∧ tm' = (S (i + l.length)).tm ∧ st' = addN x0 (fun _ => true) (S (i + l.length)).T (S (i + l.length)).nw
  | [], i, s, tm', st', h => by
    simp only [drawA, Option.some.injEq, Prod.mk.injEq] at h
    exact ⟨fun _ => s, fun _ => ⟨0, .c undef, .map [], s.T⟩, rfl, fun k q hq => by simp at hq, h.1.symm, h.2.symm⟩
  | q :: l, i, s, tm', st', h => by
    have go : ∀ (s1 : DS) (o : Oc), StepP E call ops n x0 anc i q s o s1 → drawA E call ops n x0 anc l (i + 1) s1.tm s1.T s1.nw s1.ld s1.hs = some (tm', st') →
        ∃ (S : Nat → DS) (O : Nat → Oc), S i = s ∧ (∀ k q', (q :: l)[k]? = some q' → StepP E call ops n x0 anc (i + k) q' (S (i + k)) (O (i + k)) (S (i + k + 1))) ∧ tm' = (S (i + (q :: l).length)).tm ∧ st' = addN x0 (fun _ => true) (S (i + (q :: l).length)).T (S (i + (q :: l).length)).nw := by
      intro s1 o hs1 hrest
      obtain ⟨S, O, e1, e2, e3, e4⟩ := draw_steps l (i + 1) s1 tm' st' hrest
      refine ⟨fun j => if j = i then s else S j, fun j => if j = i then o else O j, by simp, fun k q' hq => ?_, ?_, ?_⟩
      · cases k with
        | zero =>
          simp only [List.getElem?_cons_zero, Option.some.injEq] at hq
          subst hq
          simp only [Nat.add_zero, if_true]
          rw [if_neg (by omega), e1]
          exact hs1
        | succ k =>
          simp only [List.getElem?_cons_succ] at hq
          have := e2 k q' hq
          rw [show i + (k + 1) = i + 1 + k by omega]
          show StepP E call ops n x0 anc _ q' (if i + 1 + k = i then s else S (i + 1 + k)) (if i + 1 + k = i then o else O (i + 1 + k)) (if i + 1 + k + 1 = i then s else S (i + 1 + k + 1))
          rw [if_neg (by omega), if_neg (by omega), if_neg (by omega)]
          exact this
      · rw [List.length_cons, show i + (l.length + 1) = i + 1 + l.length by omega]
        show tm' = (if i + 1 + l.length = i then s else S (i + 1 + l.length)).tm
        rw [if_neg (by omega), e3]
      · rw [List.length_cons, show i + (l.length + 1) = i + 1 + l.length by omega]
        show st' = addN x0 (fun _ => true) (if i + 1 + l.length = i then s else S (i + 1 + l.length)).T (if i + 1 + l.length = i then s else S (i + 1 + l.length)).nw
        rw [if_neg (by omega), e4]
    simp only [drawA] at h
    cases hw : Region.wanted q (yieldA ops s.tm) with
    | false =>
      rw [hw] at h
      simp only [cond_false] at h
      split at h
      · simp at h
      · rename_i tm1 hput
        exact go ⟨tm1, s.T, s.nw, s.ld, s.hs⟩ ⟨0, .c undef, .map [], s.T⟩ ⟨hput, .inl ⟨rfl, .inl ⟨hw, rfl⟩, rfl, rfl, rfl, rfl⟩⟩ h
    | true =>
      rw [hw] at h
      simp only [cond_true] at h
      split at h
      · rename_i v hp
        split at h
        · simp at h
        · rename_i tm1 hput
          exact go ⟨tm1, s.T, s.nw, s.ld, s.hs⟩ ⟨0, v, .map [], s.T⟩ ⟨hput, .inl ⟨rfl, .inr ⟨hw, hp⟩, rfl, rfl, rfl, rfl⟩⟩ h
      · split at h
        · rename_i v hl
          obtain ⟨hall, h⟩ := bif_some h
          split at h
          · simp at h
          · rename_i tm1 hput
            refine go ⟨tm1, s.T, s.nw, (i, s.tm, q.op, v) :: s.ld, s.hs⟩ ⟨1, v, .map [], s.T⟩ ⟨hput, .inr (.inl ⟨rfl, hw, hl, fun j Tb hj => ?_, rfl, rfl, rfl, rfl⟩)⟩ h
            have := List.all_eq_true.1 hall (j, Tb) hj
            simpa using this
        · split at h
          · rename_i v ob hn
            split at h
            · simp at h
            · rename_i tm1 hput
              exact go ⟨tm1, s.T, (i, ob) :: s.nw, s.ld, s.hs⟩ ⟨2, v, ob, s.T⟩ ⟨hput, .inr (.inr (.inl ⟨rfl, hw, hn, rfl, rfl, rfl, rfl⟩))⟩ h
          · split at h
            · simp at h
            · rename_i v T' hx
              obtain ⟨hall, h⟩ := bif_some h
              split at h
              · simp at h
              · rename_i tm1 hput
                simp only [Bool.and_eq_true] at hall
                refine go ⟨tm1, T', s.nw.filter (fun p => !ancB anc i p.1), s.ld, (i, s.T) :: s.hs⟩ ⟨3, v, .map [], T'⟩ ⟨hput, .inr (.inr (.inr ⟨rfl, hw, hx, fun j Tb hj => ?_, fun k tk op u hk => ?_, rfl, rfl, rfl, rfl⟩))⟩ h
                · exact List.all_eq_true.1 hall.1 (j, Tb) hj
                · have := List.all_eq_true.1 hall.2 (k, tk, op, u) hk
                  simpa using this
end
structure StaticP (ops : Array Oper) (anc : Array Nat) : Prop where
  edge : ∀ (i : Nat) (o : Oper), ops[i]? = some o → ∀ e ∈ o.after, Region.binds .any e = true → e.on < i ∧ ancB anc i e.on = true
  anc_ : ∀ (i : Nat) (o : Oper), ops[i]? = some o → ∀ j, j < ops.size → ancB anc i j = true → j < i ∧ ∃ e ∈ o.after, Region.binds .any e = true ∧ (e.on = j ∨ ancB anc e.on j = true)
  apart : ∀ (i j : Nat) (o q : Oper), ops[i]? = some o → ops[j]? = some q → j < i → (ancB anc i j = true ∨ q.apart ops o = true) ∧ (o.dst = none ∨ o.dst ≠ q.dst)
theorem static_ok {ops : Array Oper} {anc : Array Nat} (h : staticB ops anc = true) : StaticP ops anc := by
  unfold staticB at h
  have key : ∀ (i : Nat) (o : Oper), ops[i]? = some o → (o, i) ∈ ops.toList.zipIdx := fun i o ho => by
    rw [List.mem_zipIdx_iff_getElem?]
    simpa using ho
  refine ⟨fun i o ho e he hb => ?_, fun i o ho j hj ha => ?_, fun i j o q ho hq hji => ?_⟩
  · have h1 := List.all_eq_true.1 h (o, i) (key i o ho)
    simp only [Bool.and_eq_true] at h1
    have h2 := List.all_eq_true.1 h1.1.1 e (by simpa using he)
    rw [hb] at h2
    simp only [Bool.not_true, Bool.false_or, Bool.and_eq_true] at h2
    exact ⟨blt_lt h2.1, h2.2⟩
  · have h1 := List.all_eq_true.1 h (o, i) (key i o ho)
    simp only [Bool.and_eq_true] at h1
    have h2 := List.all_eq_true.1 h1.1.2 j (List.mem_range.2 hj)
    rw [ha] at h2
    simp only [Bool.not_true, Bool.false_or, Bool.and_eq_true] at h2
    obtain ⟨e, he, h3⟩ := List.any_eq_true.1 h2.2
    simp only [Bool.and_eq_true, Bool.or_eq_true] at h3
    exact ⟨blt_lt h2.1, e, by simpa using he, h3.1, h3.2.imp Nat.eq_of_beq_eq_true id⟩
  · have h1 := List.all_eq_true.1 h (o, i) (key i o ho)
    simp only [Bool.and_eq_true] at h1
    have h2 := List.all_eq_true.1 h1.2 (q, j) (key j q hq)
    rw [show Nat.blt j i = true from Nat.ble_eq_true_of_le hji] at h2
    simp only [Bool.not_true, Bool.false_or, Bool.and_eq_true, Bool.or_eq_true] at h2
    refine ⟨h2.1, h2.2.imp (fun h => by cases hd : o.dst with
      | none => rfl
      | some d => rw [hd] at h; simp at h) (fun h e => by simp [e] at h)⟩
section
variable {E : Ev} {call : Nat → List AV → ES → Option (AV × ES)} {ops : Array Oper} {n x0 : Nat} {anc : Array Nat} {S : Nat → DS} {O : Nat → Oc} {tm0 : Tr AV} {T0 : ES}
structure Fx (ops : Array Oper) (n : Nat) (anc : Array Nat) (S : Nat → DS) (O : Nat → Oc) (tm0 : Tr AV) (T0 : ES) (j : Nat) : Prop where
  tmIn : ∀ (k : Nat) (q : Oper) (t : Nat), k < j → ops[k]? = some q → q.dst = some t → aev (S j).tm (.tmp t) = (O k).v
  tmOut : ∀ t : Nat, (∀ (k : Nat) (q : Oper), k < j → ops[k]? = some q → q.dst ≠ some t) → aev (S j).tm (.tmp t) = aev tm0 (.tmp t)
  out : ∀ t : Nat, n ≤ t → (S j).tm.get t = none
  TIn : ∀ h, h < j → (O h).k = 3 → (∀ h', h < h' → h' < j → (O h').k ≠ 3) → (S j).T = (O h).T
  TOut : (∀ h, h < j → (O h).k ≠ 3) → (S j).T = T0
  nw : ∀ m ob, (m, ob) ∈ (S j).nw ↔ (m < j ∧ (O m).k = 2 ∧ ob = (O m).ob ∧ ∀ h, h < j → (O h).k = 3 → ancB anc h m = false)
  ld : ∀ (k : Nat) (q : Oper), k < j → (O k).k = 1 → ops[k]? = some q → (k, (S k).tm, q.op, (O k).v) ∈ (S j).ld
  hs : ∀ h, h < j → (O h).k = 3 → (h, (S h).T) ∈ (S j).hs
theorem fx_ok (hn : n ≤ 1000000) (hS : StaticP ops anc) (h0 : S 0 = ⟨tm0, T0, [], [], []⟩) (hout : ∀ t : Nat, n ≤ t → tm0.get t = none) (hst : ∀ (k : Nat) (q : Oper), ops[k]? = some q → StepP E call ops n x0 anc k q (S k) (O k) (S (k + 1))) : ∀ j, j ≤ ops.size → Fx ops n anc S O tm0 T0 j
  | 0, _ => by
    refine ⟨fun k q t hk => by omega, fun t _ => by rw [h0], fun t ht => by rw [h0]; exact hout t ht, fun h hh => by omega, fun _ => by rw [h0], fun m ob => by rw [h0]; simp, fun k q hk => by omega, fun h hh => by omega⟩
  | j + 1, hj => by
    have F := fx_ok hn hS h0 hout hst j (by omega)
    have hq : ops[j]? = some (ops[j]'(by omega)) := Array.getElem?_eq_getElem (by omega)
    generalize ops[j]'(by omega) = q at hq
    obtain ⟨hput, hstep⟩ := hst j q hq
    have hnd : ∀ (k : Nat) (q' : Oper) (t : Nat), k < j → ops[k]? = some q' → q'.dst = some t → q.dst ≠ some t := fun k q' t hk hk' hd e => by
      rcases (hS.apart j k q q' hq hk' hk).2 with h | h
      · rw [h] at e; cases e
      · exact h (e.trans hd.symm)
    have put : ∀ t : Nat, (q.dst = some t → aev (S (j + 1)).tm (.tmp t) = (O j).v) ∧ (q.dst ≠ some t → aev (S (j + 1)).tm (.tmp t) = aev (S j).tm (.tmp t)) ∧ (n ≤ t → (S (j + 1)).tm.get t = (S j).tm.get t) := fun t => by
      unfold putA at hput
      cases hd : q.dst with
      | none =>
        rw [hd] at hput
        simp only [Option.some.injEq] at hput
        exact ⟨fun e => (by cases e), fun _ => by rw [hput], fun _ => by rw [hput]⟩
      | some d =>
        rw [hd] at hput
        obtain ⟨hb, hput⟩ := bif_some hput
        have hb := blt_lt hb
        simp only [Option.some.injEq] at hput
        rw [← hput]
        refine ⟨fun e => ?_, fun e => ?_, fun ht => ?_⟩
        · cases e
          rw [aev_put (by omega), if_pos rfl]
        · rw [aev_put (by omega), if_neg (fun h => e (by rw [h]))]
        · rw [Tr.get_put (by omega), if_neg (by omega)]
    have hk : (O j).k = 0 ∨ (O j).k = 1 ∨ (O j).k = 2 ∨ (O j).k = 3 := by
      rcases hstep with h | h | h | h
      · exact .inl h.1
      · exact .inr (.inl h.1)
      · exact .inr (.inr (.inl h.1))
      · exact .inr (.inr (.inr h.1))
    have hno : ∀ h, h < j → ancB anc h j = false := fun h hh => by
      cases ha : ancB anc h j with
      | false => rfl
      | true =>
        have hq' : ops[h]? = some (ops[h]'(by omega)) := Array.getElem?_eq_getElem (by omega)
        have := (hS.anc_ h _ hq' j (by omega) ha).1
        omega
    have lt_split : ∀ {m : Nat}, m < j + 1 → m < j ∨ m = j := fun h => by omega
    have light : (O j).k ≠ 3 → (S (j + 1)).T = (S j).T := fun h3 => by
      rcases hstep with h | h | h | h
      · exact h.2.2.1
      · exact h.2.2.2.2.1
      · exact h.2.2.2.1
      · exact absurd h.1 h3
    refine ⟨fun k q' t hk' hq' hd => ?_, fun t ht => ?_, fun t ht => by rw [(put t).2.2 ht]; exact F.out t ht, fun h hh h3 hlast => ?_, fun hno3 => ?_, fun m ob => ?_, fun k q' hk' h1 hq' => ?_, fun h hh h3 => ?_⟩
    · rcases lt_split hk' with hlt | rfl
      · rw [(put t).2.1 (hnd k q' t hlt hq' hd)]; exact F.tmIn k q' t hlt hq' hd
      · rw [hq] at hq'; cases hq'
        exact (put t).1 hd
    · rw [(put t).2.1 (ht j q (by omega) hq)]
      exact F.tmOut t fun k q' hk' hq' => ht k q' (by omega) hq'
    · rcases lt_split hh with hlt | rfl
      · rw [light (hlast j hlt (by omega))]
        exact F.TIn h hlt h3 fun h' a b => hlast h' a (by omega)
      · rcases hstep with g | g | g | g
        · rw [g.1] at h3; cases h3
        · rw [g.1] at h3; cases h3
        · rw [g.1] at h3; cases h3
        · exact g.2.2.2.2.2.1
    · rw [light (hno3 j (by omega))]
      exact F.TOut fun h hh => hno3 h (by omega)
    · have same : (O j).k ≠ 2 → (O j).k ≠ 3 → (S (j + 1)).nw = (S j).nw → ((m, ob) ∈ (S (j + 1)).nw ↔ (m < j + 1 ∧ (O m).k = 2 ∧ ob = (O m).ob ∧ ∀ h, h < j + 1 → (O h).k = 3 → ancB anc h m = false)) := fun h2 h3 he => by
        rw [he, F.nw m ob]
        constructor
        · rintro ⟨a, b, c, d⟩
          exact ⟨by omega, b, c, fun h hh h3' => by
            rcases lt_split hh with hlt | rfl
            · exact d h hlt h3'
            · exact absurd h3' h3⟩
        · rintro ⟨a, b, c, d⟩
          refine ⟨?_, b, c, fun h hh h3' => d h (by omega) h3'⟩
          rcases lt_split a with hlt | rfl
          · exact hlt
          · exact absurd b h2
      rcases hstep with g | g | g | g
      · exact same (by rw [g.1]; decide) (by rw [g.1]; decide) g.2.2.2.1
      · exact same (by rw [g.1]; decide) (by rw [g.1]; decide) g.2.2.2.2.2.1
      · rw [g.2.2.2.2.1, List.mem_cons, F.nw m ob]
        constructor
        · rintro (e | ⟨a, b, c, d⟩)
          · cases e
            exact ⟨by omega, g.1, rfl, fun h hh h3' => by
              rcases lt_split hh with hlt | rfl
              · exact hno h hlt
              · rw [g.1] at h3'; cases h3'⟩
          · exact ⟨by omega, b, c, fun h hh h3' => by
              rcases lt_split hh with hlt | rfl
              · exact d h hlt h3'
              · rw [g.1] at h3'; cases h3'⟩
        · rintro ⟨a, b, c, d⟩
          rcases lt_split a with hlt | rfl
          · exact .inr ⟨hlt, b, c, fun h hh h3' => d h (by omega) h3'⟩
          · exact .inl (by rw [c])
      · rw [g.2.2.2.2.2.2.1, List.mem_filter, F.nw m ob]
        constructor
        · rintro ⟨⟨a, b, c, d⟩, hf⟩
          exact ⟨by omega, b, c, fun h hh h3' => by
            rcases lt_split hh with hlt | rfl
            · exact d h hlt h3'
            · simpa using hf⟩
        · rintro ⟨a, b, c, d⟩
          refine ⟨⟨?_, b, c, fun h hh h3' => d h (by omega) h3'⟩, by simpa using d j (by omega) g.1⟩
          rcases lt_split a with hlt | rfl
          · exact hlt
          · rw [g.1] at b; cases b
    · rcases lt_split hk' with hlt | rfl
      · have := F.ld k q' hlt h1 hq'
        rcases hstep with g | g | g | g
        · rw [g.2.2.2.2.1]; exact this
        · rw [g.2.2.2.2.2.2.1]; exact List.mem_cons_of_mem _ this
        · rw [g.2.2.2.2.2.1]; exact this
        · rw [g.2.2.2.2.2.2.2.1]; exact this
      · rw [hq] at hq'; cases hq'
        rcases hstep with g | g | g | g
        · rw [g.1] at h1; cases h1
        · rw [g.2.2.2.2.2.2.1]; exact List.mem_cons_self ..
        · rw [g.1] at h1; cases h1
        · rw [g.1] at h1; cases h1
    · rcases lt_split hh with hlt | rfl
      · have := F.hs h hlt h3
        rcases hstep with g | g | g | g
        · rw [g.2.2.2.2.2]; exact this
        · rw [g.2.2.2.2.2.2.2]; exact this
        · rw [g.2.2.2.2.2.2]; exact this
        · rw [g.2.2.2.2.2.2.2.2]; exact List.mem_cons_of_mem _ this
      · rcases hstep with g | g | g | g
        · rw [g.1] at h3; cases h3
        · rw [g.1] at h3; cases h3
        · rw [g.1] at h3; cases h3
        · rw [g.2.2.2.2.2.2.2.2]; exact List.mem_cons_self ..
end
end Go.Proofs.YtgpgmmkkmoecmaaGreatDoor

/- Closed calls, evaluated: what an operation does hangs on its operands alone; alike values are the same; a region's new blocks. Plain lemmas; no program. -/
namespace Go.Proofs.YtgpgmmkkmoecmaaGreatDoor
open Go Go.RowKit

section
variable {E : Ev} {ρ1 ρ2 : Operand → AV} {st : ES}
theorem fillA_congr (place : Nat → Option (Nat × Nat)) : ∀ (parts : List (Nat × Operand)) (l : List AV), (∀ p ∈ parts, ρ1 p.2 = ρ2 p.2) → fillA place ρ1 parts l = fillA place ρ2 parts l
  | [], l, _ => rfl
  | (i, x) :: parts, l, h => by
    have hx := h (i, x) (List.mem_cons_self ..)
    simp only at hx
    simp only [fillA, hx]
    split
    · rfl
    · rw [fillA_congr place parts _ fun p hp => h p (List.mem_cons_of_mem _ hp)]
theorem parts_mem {parts : Array (Nat × Operand)} (h : ∀ x ∈ (parts.toList.map (·.2)).toArray, ρ1 x = ρ2 x) : ∀ p ∈ parts.toList, ρ1 p.2 = ρ2 p.2 := fun p hp => h p.2 (by simp; exact ⟨p.1, by simpa using hp⟩)
theorem call_args {c : Call} (h : ∀ x ∈ c.operands, ρ1 x = ρ2 x) : c.args.toList.map ρ1 = c.args.toList.map ρ2 := List.map_congr_left fun x hx => h x (by simp [Call.operands]; right; simpa using hx)
theorem evPure_congr {ty : TypeId} {op : Op} (h : ∀ x ∈ op.operands, ρ1 x = ρ2 x) : evPure E ρ1 ty op = evPure E ρ2 ty op := by
  cases op <;> simp only [Op.operands] at h <;> simp only [evPure]
  case slice t x lo hi mx =>
    have hx : ρ1 x = ρ2 x := h x (by simp)
    have h1 : ∀ d, idxA ρ1 d lo = idxA ρ2 d lo ∧ optA ρ1 lo = optA ρ2 lo := fun d => by
      cases lo with
      | none => exact ⟨rfl, rfl⟩
      | some y => have := h y (by simp); simp [idxA, optA, this]
    have h2 : ∀ d, idxA ρ1 d hi = idxA ρ2 d hi ∧ optA ρ1 hi = optA ρ2 hi := fun d => by
      cases hi with
      | none => exact ⟨rfl, rfl⟩
      | some y => have := h y (by simp); simp [idxA, optA, this]
    have h3 : ∀ d, idxA ρ1 d mx = idxA ρ2 d mx ∧ optA ρ1 mx = optA ρ2 mx := fun d => by
      cases mx with
      | none => exact ⟨rfl, rfl⟩
      | some y => have := h y (by simp); simp [idxA, optA, this]
    unfold pSlice
    simp only [hx, (h1 0).1, (h1 0).2, fun d => (h2 d).1, (h2 0).2, (h3 0).1, (h3 0).2]
  case build t parts => unfold pBuild; simp only [fun pl l => fillA_congr pl parts.toList l (parts_mem h)]
  case makeFunc fn first cap =>
    cases fn with
    | func f =>
      simp only
      rw [List.map_congr_left (l := first.toList) fun x hx => h x (by simp; left; simpa using hx), List.map_congr_left (l := cap.toList) fun x hx => h x (by simp; right; simpa using hx)]
    | _ => rfl
  case call c =>
    cases hc : c.callee with
    | builtin b => simp only [call_args h]
    | _ => rfl
  all_goals first
    | rfl
    | (simp at h; simp only [h]; done)
    | (simp at h; simp [h]; done)
theorem evLoad_congr {op : Op} (h : ∀ x ∈ op.operands, ρ1 x = ρ2 x) : evLoad E st ρ1 op = evLoad E st ρ2 op := by
  cases op <;> simp only [Op.operands] at h <;> simp only [evLoad]
  case call c =>
    cases hc : c.callee with
    | builtin b => simp only [call_args h]
    | _ => rfl
  all_goals first
    | rfl
    | (simp at h; simp [h]; done)
theorem evNew_congr {id : Nat} {op : Op} (h : ∀ x ∈ op.operands, ρ1 x = ρ2 x) : evNew E ρ1 id op = evNew E ρ2 id op := by
  cases op <;> simp only [Op.operands] at h <;> simp only [evNew]
  case buildSlice t n parts => unfold nRow; simp only [fun pl l => fillA_congr pl parts.toList l (parts_mem h)]
  case makeMap t r =>
    cases r with
    | none => rfl
    | some x => simp at h; simp [h]
  all_goals first
    | rfl
    | (simp at h; simp [h]; done)
theorem evHeavy_congr {op : Op} (h : ∀ x ∈ op.operands, ρ1 x = ρ2 x) : evHeavy E st ρ1 op = evHeavy E st ρ2 op := by
  cases op <;> simp only [Op.operands] at h <;> simp only [evHeavy]
  case call c =>
    cases hc : c.callee with
    | builtin b => simp only [call_args h]
    | _ => rfl
  all_goals first
    | rfl
    | (simp at h; simp [h]; done)
theorem calledA_congr {op : Op} (h : ∀ x ∈ op.operands, ρ1 x = ρ2 x) : calledA ρ1 op = calledA ρ2 op := by
  cases op <;> simp only [Op.operands] at h <;> simp only [calledA]
  case call c =>
    cases hc : c.callee with
    | value f => simp only [call_args h, h f (by simp [Call.operands, hc])]
    | _ => rfl
theorem execA_congr {call : Nat → List AV → ES → Option (AV × ES)} {ty : TypeId} {op : Op} (h : ∀ x ∈ op.operands, ρ1 x = ρ2 x) : execA E call ρ1 ty st op = execA E call ρ2 ty st op := by
  unfold execA evOp
  rw [calledA_congr h, evPure_congr h, evLoad_congr h, evNew_congr h, evHeavy_congr h]
end
theorem eqvV_ok : ∀ {a b : Value}, eqvV a b = true → a = b := by
  intro a b h
  unfold eqvV at h
  split at h
  · simp at h; rw [h]
  · simp at h; rw [h]
  · simp at h; rw [h]
  · simp only [Bool.and_eq_true] at h
    rw [Nat.eq_of_beq_eq_true h.1, Nat.eq_of_beq_eq_true h.2]
  · rfl
  · rfl
  · rename_i a b
    simp at h
    have : a = b := by
      cases a; cases b
      simp at h
      rw [h]
    rw [this]
  · cases h
mutual
theorem eqvA_ok : ∀ {x y : AV}, eqvA x y = true → x = y
  | .c a, .c b, h => by simp only [eqvA] at h; rw [eqvV_ok h]
  | .p i o, .p j q, h => by
    simp only [eqvA, Bool.and_eq_true] at h
    rw [Nat.eq_of_beq_eq_true h.1, Nat.eq_of_beq_eq_true h.2]
  | .s i o n r c, .s j q m t d, h => by
    simp only [eqvA, Bool.and_eq_true, beq_iff_eq] at h
    rw [Nat.eq_of_beq_eq_true h.1, Nat.eq_of_beq_eq_true h.2.1, Nat.eq_of_beq_eq_true h.2.2.1, h.2.2.2.1, Nat.eq_of_beq_eq_true h.2.2.2.2]
  | .z i, .z j, h => by simp only [eqvA] at h; rw [Nat.eq_of_beq_eq_true h]
  | .m i, .m j, h => by simp only [eqvA] at h; rw [Nat.eq_of_beq_eq_true h]
  | .g l, .g k, h => by simp only [eqvA] at h; rw [eqvL_ok h]
  | .c _, .p .., h | .c _, .s .., h | .c _, .z .., h | .c _, .y .., h | .c _, .m .., h | .c _, .g .., h | .c _, .t .., h | .c _, .f .., h => by simp [eqvA] at h
  | .p .., .c .., h | .p .., .s .., h | .p .., .z .., h | .p .., .y .., h | .p .., .m .., h | .p .., .g .., h | .p .., .t .., h | .p .., .f .., h => by simp [eqvA] at h
  | .s .., .c .., h | .s .., .p .., h | .s .., .z .., h | .s .., .y .., h | .s .., .m .., h | .s .., .g .., h | .s .., .t .., h | .s .., .f .., h => by simp [eqvA] at h
  | .z .., .c .., h | .z .., .p .., h | .z .., .s .., h | .z .., .y .., h | .z .., .m .., h | .z .., .g .., h | .z .., .t .., h | .z .., .f .., h => by simp [eqvA] at h
  | .m .., .c .., h | .m .., .p .., h | .m .., .s .., h | .m .., .z .., h | .m .., .y .., h | .m .., .g .., h | .m .., .t .., h | .m .., .f .., h => by simp [eqvA] at h
  | .g .., .c .., h | .g .., .p .., h | .g .., .s .., h | .g .., .z .., h | .g .., .y .., h | .g .., .m .., h | .g .., .t .., h | .g .., .f .., h => by simp [eqvA] at h
  | .y .., _, h | .t .., _, h | .f .., _, h => by simp [eqvA] at h
theorem eqvL_ok : ∀ {l k : List AV}, eqvL l k = true → l = k
  | [], [], _ => rfl
  | x :: l, y :: k, h => by
    simp only [eqvL, Bool.and_eq_true] at h
    rw [eqvA_ok h.1, eqvL_ok h.2]
  | [], _ :: _, h => by simp [eqvL] at h
  | _ :: _, [], h => by simp [eqvL] at h
end
theorem sameO_ok {a : Option AV} {v : AV} (h : sameO a v = true) : a = some v := by
  unfold sameO at h
  split at h
  · rw [eqvA_ok h]
  · cases h
theorem addN_x (x0 : Nat) (p : Nat → Bool) (T : ES) : ∀ nw : List (Nat × AO), (addN x0 p T nw).x = T.x
  | [] => rfl
  | (j, ob) :: r => by
    simp only [addN]
    cases p j with
    | true => simp only [cond_true]; exact addN_x x0 p T r
    | false => simp only [cond_false]; exact addN_x x0 p T r
theorem addN_out (x0 : Nat) (p : Nat → Bool) (T : ES) (B : Nat) (hB : x0 + B ≤ 1000000000) (id : Nat) : ∀ nw : List (Nat × AO), (∀ m ob, (m, ob) ∈ nw → m < B) → (∀ m ob, (m, ob) ∈ nw → p m = true → id ≠ x0 + m) → (addN x0 p T nw).h.get id = T.h.get id
  | [], _, _ => rfl
  | (j, ob) :: r, hb, h => by
    have ih := addN_out x0 p T B hB id r (fun m o hm => hb m o (List.mem_cons_of_mem _ hm)) (fun m o hm => h m o (List.mem_cons_of_mem _ hm))
    have hj := hb j ob (List.mem_cons_self ..)
    simp only [addN]
    cases hp : p j with
    | true =>
      simp only [cond_true]
      rw [Tr.get_put (by omega), if_neg (h j ob (List.mem_cons_self ..) hp)]
      exact ih
    | false => simp only [cond_false]; exact ih
theorem addN_in (x0 : Nat) (p : Nat → Bool) (T : ES) (B : Nat) (hB : x0 + B ≤ 1000000000) {m : Nat} {ob : AO} (hp : p m = true) : ∀ nw : List (Nat × AO), (∀ m ob, (m, ob) ∈ nw → m < B) → (∀ o, (m, o) ∈ nw → o = ob) → (m, ob) ∈ nw → (addN x0 p T nw).h.get (x0 + m) = some ob
  | [], _, _, h => by simp at h
  | (j, o) :: r, hb, hf, h => by
    have hj := hb j o (List.mem_cons_self ..)
    simp only [addN]
    by_cases hjm : j = m
    · subst hjm
      rw [hp]
      simp only [cond_true]
      rw [Tr.get_put (by omega), if_pos rfl, hf o (List.mem_cons_self ..)]
    · have hr : (m, ob) ∈ r := by
        rcases List.mem_cons.1 h with e | e
        · cases e; exact absurd rfl hjm
        · exact e
      have ih := addN_in x0 p T B hB hp r (fun m o hm => hb m o (List.mem_cons_of_mem _ hm)) (fun o ho => hf o (List.mem_cons_of_mem _ ho)) hr
      cases p j with
      | true =>
        simp only [cond_true]
        rw [Tr.get_put (by omega), if_neg (by omega)]
        exact ih
      | false => simp only [cond_false]; exact ih
end Go.Proofs.YtgpgmmkkmoecmaaGreatDoor
