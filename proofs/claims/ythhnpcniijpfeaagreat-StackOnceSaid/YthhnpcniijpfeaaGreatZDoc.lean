/- The document's machines as texts of accesses: what a text does next, and what it comes to behind a log. One element appended to a row of one-cell elements: a block of one cell is never turned. The document's machine in memory: told, now, tell. The document's machine: its accesses. The document's machine: mark, word. The document's machine: fresh, idle, New, Step. The document's machine: Step, by what its body does. The document's machine: what an access leaves of it as it was. By an AI agent. -/
import Derived.Test.YthhnpcniijpfeaaGreatZ1
import Derived.Maps.AppendAt
import Derived.Test.YthhnpcniijpfeaaGreatZMemIs
import Derived.Test.YthhnpcniijpfeaaGreatZ2
namespace Go.Proofs.YthhnpcniijpfeaaGreat
open Go.RowKit
set_option linter.unusedSimpArgs false
set_option linter.unusedVariables false
/-- An access. -/
inductive Ac where
  | load (at_ : Int)
  | put (at_ v : Int)
  | cas (at_ o v : Int)
  | add (at_ v : Int)
namespace Ac
def pos : Ac → Int
  | load a => a
  | put a _ => a
  | cas a _ _ => a
  | add a _ => a
/-- What is put fits a word. -/
def fit : Ac → Prop
  | load _ => True
  | put _ v => 0 ≤ v ∧ v < 18446744073709551616
  | cas _ _ v => 0 ≤ v ∧ v < 18446744073709551616
  | add _ _ => True
/-- What it leaves of a store. -/
def act : Ac → StoreS → StoreS
  | load a, s => s.acc 1 a (s.word a)
  | put a v, s => s.acc 2 a v
  | cas a o v, s => if s.word a = o then s.acc 3 a v else s.acc 4 a (s.word a)
  | add a v, s => s.acc 5 a ((s.word a + v) % 18446744073709551616)
theorem act_old (c : Ac) (s : StoreS) : (c.act s).old = s.word c.pos := by
  cases c <;> simp only [act, pos] <;> first | rfl | (split <;> rfl)
theorem act_pos (c : Ac) (s : StoreS) : (c.act s).pos = c.pos := by
  cases c <;> simp only [act, pos] <;> first | rfl | (split <;> rfl)
theorem act_fit {c : Ac} {s : StoreS} (h : s.fit) (hc : c.fit) : (c.act s).fit := by
  cases c with
  | load a => exact StoreS.acc_fit h 1 a (StoreS.word_bd h a).1 (StoreS.word_bd h a).2
  | put a v => exact StoreS.acc_fit h 2 a hc.1 hc.2
  | cas a o v =>
    simp only [act]
    split
    · exact StoreS.acc_fit h 3 a hc.1 hc.2
    · exact StoreS.acc_fit h 4 a (StoreS.word_bd h a).1 (StoreS.word_bd h a).2
  | add a v => exact StoreS.acc_fit h 5 a (by omega) (by omega)
theorem act_len (c : Ac) (s : StoreS) : (c.act s).ws.length = s.ws.length := by
  cases c <;> simp only [act] <;> first | (split <;> simp [StoreS.acc]) | simp [StoreS.acc]
end Ac
/-- A text: it is over, or an access comes next, and what then, by the word that was told. -/
inductive Pr (α : Type) where
  | ret (a : α)
  | op (c : Ac) (k : Int → Pr α)
/-- What the step that was done comes to. -/
def Pr.val {α : Type} : Pr α → Option α
  | .ret a => some a
  | .op _ _ => none
/-- What a text is behind what was told. -/
def Pr.feed {α : Type} : Pr α → List Int → Pr α
  | p, [] => p
  | .ret a, _ :: _ => .ret a
  | .op _ k, v :: l => (k v).feed l
theorem Pr.feed_append {α : Type} : ∀ (p : Pr α) (l m : List Int), p.feed (l ++ m) = (p.feed l).feed m
  | p, [], m => by cases p <;> rfl
  | .ret a, _ :: _, [] => rfl
  | .ret a, _ :: _, _ :: _ => rfl
  | .op _ k, v :: l, m => Pr.feed_append (k v) l m
/-- A machine of the document: what it is made of, what was told, how far this step is, what it told. -/
structure MS where
  what : Int
  P : Int
  T : Int
  thread : Int
  page : Int
  cls : Int
  pages : Int
  gen : Int
  head : Int
  size : Int
  most : Int
  mask : Int
  log : List Int
  done : Bool
  at_ : Nat
  used : Bool
  d0 : Int
  d1 : Int
  d2 : Int
  d3 : Int
  got : Int
  code : Int
  n : Int
  gens : Int
  freed : Int
namespace MS
/-- It tells what a store's last access was. -/
def told (x : MS) (s : StoreS) : MS := { x with d0 := s.k, d1 := s.pos, d2 := s.old, d3 := s.new }
/-- An access: it was told ahead of now, or is done now, or may not be done now. -/
def acc (x : MS) (c : Ac) (s : StoreS) : Option Int × MS × StoreS :=
  match x.log[x.at_]? with
  | some v => (some v, { x with at_ := x.at_ + 1 }, s)
  | none => if x.used then (none, x, s) else (some (s.word c.pos), { x.told (c.act s) with used := true, log := x.log ++ [s.word c.pos], at_ := x.at_ + 1 }, c.act s)
/-- A text, gone through. -/
def exec {α : Type} : Pr α → MS → StoreS → Option α × MS × StoreS
  | .ret a, x, s => (some a, x, s)
  | .op c k, x, s => match x.acc c s with
    | (some v, x1, s1) => exec (k v) x1 s1
    | (none, x1, s1) => (none, x1, s1)
/-- What holds of a machine that is gone through. -/
structure Ok (x : MS) : Prop where
  le : x.at_ ≤ x.log.length
  end_ : x.used = true → x.at_ = x.log.length
theorem Ok.acc {x : MS} (h : x.Ok) (c : Ac) (s : StoreS) : (x.acc c s).2.1.Ok := by
  unfold MS.acc
  rcases hg : x.log[x.at_]? with _ | v
  · dsimp only
    have hle : x.log.length ≤ x.at_ := by
      rcases Nat.lt_or_ge x.at_ x.log.length with h1 | h1
      · rw [List.getElem?_eq_getElem h1] at hg; cases hg
      · exact h1
    have hl := h.le
    by_cases hu : x.used = true
    · rw [if_pos hu]; exact h
    · rw [if_neg hu]
      exact ⟨by simp; omega, fun _ => by simp; omega⟩
  · dsimp only
    have hlt : x.at_ < x.log.length := by
      rcases Nat.lt_or_ge x.at_ x.log.length with h1 | h1
      · exact h1
      · rw [List.getElem?_eq_none h1] at hg; cases hg
    refine ⟨hlt, fun hu => ?_⟩
    have := h.end_ hu
    omega
end MS
theorem Pr.feed_nil {α : Type} (p : Pr α) : p.feed [] = p := by cases p <;> rfl
/-- Gone through from where it is, nothing done yet: what was told is passed; the next access is done, no other one. -/
theorem MS.exec_op {α : Type} : ∀ (l : List Int) (p : Pr α) (x : MS) (s : StoreS) (c : Ac) (k : Int → Pr α), x.used = false → l = x.log.drop x.at_ → x.at_ ≤ x.log.length → p.feed l = .op c k →
    MS.exec p x s = ((k (s.word c.pos)).val, { x.told (c.act s) with used := true, log := x.log ++ [s.word c.pos], at_ := x.log.length + 1 }, c.act s)
  | [], p, x, s, c, k, hu, hl, hle, he => by
    rw [Pr.feed_nil] at he
    subst he
    have hlen : x.log.length ≤ x.at_ := by
      have := congrArg List.length hl
      simp at this; omega
    have e1 : x.at_ = x.log.length := by omega
    have e2 : x.log[x.at_]? = none := List.getElem?_eq_none (by omega)
    simp only [MS.exec, MS.acc, e2, hu]
    rw [e1]
    cases hk : k (s.word c.pos) with
    | ret a => simp [MS.exec, Pr.val, hk]
    | op c2 k2 => simp [MS.exec, MS.acc, Pr.val, MS.told, hk]
  | v :: l, .ret a, x, s, c, k, hu, hl, hle, he => by cases he
  | v :: l, .op c0 k0, x, s, c, k, hu, hl, hle, he => by
    have hlt : x.at_ < x.log.length := by
      rcases Nat.lt_or_ge x.at_ x.log.length with h1 | h1
      · exact h1
      · rw [List.drop_eq_nil_of_le h1] at hl; cases hl
    rw [List.drop_eq_getElem_cons hlt] at hl
    injection hl with hv hl2
    have e2 : x.log[x.at_]? = some v := by rw [List.getElem?_eq_getElem hlt, hv]
    have e3 : MS.exec (.op c0 k0) x s = MS.exec (k0 v) { x with at_ := x.at_ + 1 } s := by
      simp only [MS.exec, MS.acc, e2]
    rw [e3]
    exact MS.exec_op l (k0 v) { x with at_ := x.at_ + 1 } s c k hu hl2 hlt he
/-- A block of two cells or more. -/
def Big (w : World) (b : Nat) : Prop := ∃ c t, Blk w b c t ∧ 2 ≤ c.size
theorem Big.not {w : World} {b : Nat} {x : Value} {t : TypeId} (h : Big w b) (hb : Blk w b #[x] t) : False := by
  obtain ⟨c, u, hc, h2⟩ := h
  rw [(hc.uniq hb).1] at h2
  simp at h2
theorem only_grownBy {w w' : World} {r : Option Nat} (h : w.grownBy w' r) : Only (fun b => r = some b) w w' :=
  ⟨h.os, h.tape, h.output, h.size, fun i hi hs => h.block i hi (fun e => hs e.symm)⟩
section
variable {P : Program} (w : World)
theorem run_append_big (base : Nat) (t ty e : TypeId) (i : TypeInfo) (z : Value) (bytes : Nat) (ht : P.underlying t = some (.slice e)) (hi : P.info? e = some i) (hz : i.zero = some z)
    (hsize : i.size = 1) (hby : i.bytes = bytes) (hzs : z.cells.size = 1)
    (v : Value) (n : Nat) (xs : List Value) (hown : w.ownsRow base e 1 v n xs) (hnil : n = 0 → v = .slice none 0 0)
    (a : Addr) (c : Nat) (u : Value) (hu : ∀ j x, [u][j]? = some x → w.cell? (a.add j) = some x) (h1 : u.oneCell' = true)
    (h63 : n + 1 ≤ maxLen) (hbytes : (n + 1) * bytes ≤ 140737488355328) (hbase : base ≤ w.heap.size) :
    ∃ v' w', (Builtin.append_ #[t, t] ty #[v, .slice (some a) 1 c]).run P w = .ok v' w' ∧ w'.ownsRow base e 1 v' (n + 1) (xs ++ [u]) ∧ Only (fun b => v.ownBlock = some b ∧ Big w b) w w' ∧
      (v'.ownBlock = v.ownBlock ∨ v'.ownBlock = some w.heap.size) := by
  obtain ⟨v', w', hr, h2, h3, h4, h5⟩ := run_append_own_at (P := P) w base t ty e i z 1 bytes ht hi hz hsize hby hzs (by omega) v n xs hown a 1 c [u] (by simp) hu (by simpa using h1) h63 hbytes hbase
  refine ⟨v', w', hr, h2, ?_, h5⟩
  rcases hown.2 with ⟨rfl, rfl⟩ | ⟨g, cap, cur, rfl, hbg, hg, hnc, hcm, hcs, htake⟩
  · exact (only_grownBy h3).mono (fun b _ hb => by simp [Value.ownBlock] at hb)
  · by_cases hroom : n + 1 ≤ cap
    · have hn : n ≠ 0 := fun e => by have := hnil e; simp at this
      refine (only_grownBy h3).mono (fun b _ hb => ⟨hb, cur, e, ?_, by omega⟩)
      simp only [Value.ownBlock, Option.some.injEq] at hb
      subst hb
      exact hg
    · have holds : ∀ j u, xs[j]? = some u → w.cell? ((⟨g, 0, none⟩ : Addr).add j) = some u := hown.cells (g := g) rfl
      have hr2 := run_append_grow (P := P) w t ty e i z ht hi hz ⟨g, 0, none⟩ n cap xs (by rw [hsize]; exact hown.1) holds a 1 c [u] (by rw [hsize]; rfl) hu (by omega) (by unfold maxLen at h63; omega) (growslice_fits (by omega) (by rw [hby]; exact hbytes))
      rw [hr] at hr2
      injection hr2 with _ hw
      subst hw
      refine (show Adds w _ from ?_).mono (fun _ _ e => e.elim)
      exact ((Only.refl (fun _ => False) w).drew).alloc _
theorem wp_append_big {o : Oper} {a : Act} {K : Act → World → Prop} {Q : Exit → Act → World → Prop} (s x : Operand) (t : TypeId)
    (ho : o.op = .call { callee := .builtin .append, args := #[s, x], argTypes := #[t, t] })
    (base : Nat) (e : TypeId) (i : TypeInfo) (z : Value) (bytes : Nat) (ht : P.underlying t = some (.slice e)) (hi : P.info? e = some i) (hz : i.zero = some z)
    (hsize : i.size = 1) (hby : i.bytes = bytes) (hzs : z.cells.size = 1)
    (v : Value) (n : Nat) (xs : List Value) (hs : a.eval s = v) (hown : w.ownsRow base e 1 v n xs) (hnil : n = 0 → v = .slice none 0 0)
    (ad : Addr) (c : Nat) (u : Value) (hx : a.eval x = .slice (some ad) 1 c) (hu : ∀ j x, [u][j]? = some x → w.cell? (ad.add j) = some x) (h1 : u.oneCell' = true)
    (h63 : n + 1 ≤ maxLen) (hbytes : (n + 1) * bytes ≤ 140737488355328) (hbase : base ≤ w.heap.size)
    (h : ∀ v' w', w'.ownsRow base e 1 v' (n + 1) (xs ++ [u]) → Only (fun b => v.ownBlock = some b ∧ Big w b) w w' → (v'.ownBlock = v.ownBlock ∨ v'.ownBlock = some w.heap.size) → K (a.put o.dst v') w') : o.wp P a w K Q := by
  obtain ⟨v', w', hr, h2, h3, h4⟩ := run_append_big (P := P) w base t o.type e i z bytes ht hi hz hsize hby hzs v n xs hown hnil ad c u hu h1 h63 hbytes hbase
  unfold Oper.wp execOp
  simp only [ho, resolve, invoke, builtin, Sem.run_bind, Sem.run_pure, Result.andThen_ok, List.map_toArray, List.map_cons, List.map_nil, hs, hx, hr]
  exact h v' w' h2 h3 h4
theorem wpList_append_big {ops : Array Oper} {rest : List Oper} {o : Oper} {a : Act} {Q : Exit → Act → World → Prop} (hgd : o.guard = none) (s x : Operand) (t : TypeId)
    (ho : o.op = .call { callee := .builtin .append, args := #[s, x], argTypes := #[t, t] })
    (base : Nat) (e : TypeId) (i : TypeInfo) (z : Value) (bytes : Nat) (ht : P.underlying t = some (.slice e)) (hi : P.info? e = some i) (hz : i.zero = some z)
    (hsize : i.size = 1) (hby : i.bytes = bytes) (hzs : z.cells.size = 1)
    (v : Value) (n : Nat) (xs : List Value) (hs : a.eval s = v) (hown : w.ownsRow base e 1 v n xs) (hnil : n = 0 → v = .slice none 0 0)
    (ad : Addr) (c : Nat) (u : Value) (hx : a.eval x = .slice (some ad) 1 c) (hu : ∀ j x, [u][j]? = some x → w.cell? (ad.add j) = some x) (h1 : u.oneCell' = true)
    (h63 : n + 1 ≤ maxLen) (hbytes : (n + 1) * bytes ≤ 140737488355328) (hbase : base ≤ w.heap.size)
    (h : ∀ v' w', w'.ownsRow base e 1 v' (n + 1) (xs ++ [u]) → Only (fun b => v.ownBlock = some b ∧ Big w b) w w' → (v'.ownBlock = v.ownBlock ∨ v'.ownBlock = some w.heap.size) → wpList P ops Q rest (a.put o.dst v') w') : wpList P ops Q (o :: rest) a w :=
  wpList_plain hgd fun _ hK => wp_append_big w s x t ho base e i z bytes ht hi hz hsize hby hzs v n xs hs hown hnil ad c u hx hu h1 h63 hbytes hbase fun v' w' h2 h3 h4 => hK _ _ (h v' w' h2 h3 h4)
end
/-- The cells of a machine. -/
def MS.arr (x : MS) (lg mk mem : Value) : Array Value :=
  #[.int .i64 x.what, .int .i64 x.P, .int .i64 x.T, .int .i64 x.thread, .int .i64 x.page, .int .i64 x.cls, .int .i64 x.pages, .int .i64 x.gen, .int .i64 x.head, .int .i64 x.size, .int .i64 x.most, .int .u64 x.mask, .bool false, .slice none 0 0, lg, .bool x.done, .int .i64 x.at_, .bool x.used, mem, .int .i64 x.d0, .int .i64 x.d1, .int .u64 x.d2, .int .u64 x.d3, .int .i64 x.got, .int .i64 x.code, .int .i64 x.n, .int .i64 x.gens, .int .u64 x.freed, .slice none 0 0, mk, .int .i64 0, .int .i64 0]
theorem ownsRow_only {S : Nat → Prop} {w w' : World} {base : Nat} {e : TypeId} {size : Nat} {v : Value} {n : Nat} {xs : List Value} (h : w.ownsRow base e size v n xs) (ho : Only S w w') (hs : ∀ g, v.ownBlock = some g → ¬ S g) : w'.ownsRow base e size v n xs := by
  refine ⟨h.1, ?_⟩
  rcases h.2 with hn | ⟨g, cap, cur, rfl, hb, hg, rest⟩
  · exact .inl hn
  · exact .inr ⟨g, cap, cur, rfl, hb, (ho.block g (Array.getElem?_eq_some_iff.1 hg).1 (hs g rfl)).trans hg, rest⟩
theorem ownsRow_blk {w : World} {base : Nat} {e : TypeId} {size : Nat} {v : Value} {n : Nat} {xs : List Value} (h : w.ownsRow base e size v n xs) {g : Nat} (hg : v.ownBlock = some g) : ∃ c, Blk w g c e := by
  rcases h.2 with ⟨rfl, _⟩ | ⟨g', cap, cur, rfl, _, hgg, _⟩
  · cases hg
  · obtain rfl : g' = g := by simpa [Value.ownBlock] using hg
    exact ⟨cur, hgg⟩
theorem ownsRow_slice {w : World} {base : Nat} {e : TypeId} {size : Nat} {v : Value} {n : Nat} {xs : List Value} (h : w.ownsRow base e size v n xs) : ∃ a c, v = .slice a n c := by
  rcases h.2 with ⟨rfl, h0⟩ | ⟨g, cap, cur, rfl, _⟩
  · exact ⟨none, 0, by rw [h0]⟩
  · exact ⟨_, cap, rfl⟩
/-- Block mb is a machine of the document: its log lies in lg's row, its marks are mk. -/
structure IsM (w : World) (mb : Nat) (x : MS) (lg mk mem : Value) : Prop where
  blk : Blk w mb (x.arr lg mk mem) 95
  row : w.ownsRow 0 48 1 lg x.log.length (x.log.map (Value.int .u64))
  nil : x.log.length = 0 → lg = .slice none 0 0
  ok : x.Ok
  few : x.log.length ≤ 100000
  fit : ∀ v ∈ x.log, 0 ≤ v ∧ v < 18446744073709551616
  mkn : x.used = false → mk = .slice none 0 0
section
variable {w w' : World} {mb bb sb sm rb fb : Nat} {P T : Int} {s : StoreS} {x : MS} {lg mk mem : Value}
theorem IsM.only {S : Nat → Prop} (h : IsM w mb x lg mk mem) (ho : Only S w w') (h1 : ¬ S mb) (h2 : ∀ g, lg.ownBlock = some g → ¬ S g) : IsM w' mb x lg mk mem :=
  ⟨h.blk.only ho h1, ownsRow_only h.row ho h2, h.nil, h.ok, h.few, h.fit, h.mkn⟩
theorem IsM.adds (h : IsM w mb x lg mk mem) (ho : Adds w w') : IsM w' mb x lg mk mem := h.only ho id (fun _ _ => id)
/-- The log's block is none of the machine's. -/
theorem IsM.ne (h : IsM w mb x lg mk mem) : ∀ g, lg.ownBlock = some g → g ≠ mb := fun g hg e => by
  subst e
  obtain ⟨c, hc⟩ := ownsRow_blk h.row hg
  have := (hc.uniq h.blk).2; revert this; decide
theorem IsM.lt (h : IsM w mb x lg mk mem) : ∀ g, lg.ownBlock = some g → g < w.heap.size := fun g hg => by
  obtain ⟨c, hc⟩ := ownsRow_blk h.row hg
  exact hc.lt
/-- Cells of the machine turned. -/
theorem IsM.turn {y : MS} {mk' mem' : Value} (h : IsM w mb x lg mk mem) (ho : Only (· = mb) w w') (hb : Blk w' mb (y.arr lg mk' mem') 95) (hl : y.log = x.log) (hok : y.Ok) (hmk : y.used = false → mk' = .slice none 0 0) : IsM w' mb y lg mk' mem' :=
  ⟨hb, by rw [hl]; exact ownsRow_only h.row ho h.ne, by rw [hl]; exact h.nil, hok, by rw [hl]; exact h.few, by rw [hl]; exact h.fit, hmk⟩
set_option maxHeartbeats 2000000 in
theorem mTold_yes {v : Int} (h : IsM w mb x lg mk mem) (hv : x.log[x.at_]? = some v) :
    Calls Tryz.prog 142 #[.pointer (some ⟨mb, 0, none⟩)] w fun e w' => e = .returned (.tuple #[.int .u64 v, .bool true]) ∧ IsM w' mb { x with at_ := x.at_ + 1 } lg mk mem ∧ Only (· = mb) w w' := by
  have hlt : x.at_ < x.log.length := by
    rcases Nat.lt_or_ge x.at_ x.log.length with h1 | h1
    · exact h1
    · rw [List.getElem?_eq_none h1] at hv; cases hv
  obtain ⟨g, cp, hlg, hg⟩ := row_at h.row (k := x.at_) (x := .int .u64 v) hlt (by simp [hv])
  have hfew := h.few
  have hgm : g ≠ mb := h.ne g (by rw [hlg]; rfl)
  have hfin : Hid (∀ w1, Only (· = mb) w w1 → Blk w1 mb ((MS.arr { x with at_ := x.at_ + 1 } lg mk mem)) 95 → IsM w1 mb { x with at_ := x.at_ + 1 } lg mk mem) := Lib.hid (fun w1 ho hb =>
    h.turn ho hb rfl ⟨hlt, fun hu => by have := h.ok.end_ hu; omega⟩ h.mkn)
  have HB := Lib.hid h.blk
  have f16 := h.blk.frozen 16
  have c14 : w.cell? ⟨mb, 14, none⟩ = some lg := h.blk.cell 14
  have c16 : w.cell? ⟨mb, 16, none⟩ = some (.int .i64 (x.at_ : Int)) := h.blk.cell 16
  rw [hlg] at c14
  obtain ⟨j, hj⟩ : ∃ j, j = x.at_ := ⟨_, rfl⟩
  obtain ⟨n, hn⟩ : ∃ n, n = x.log.length := ⟨_, rfl⟩
  rw [← hj] at c16 hg hlt
  rw [← hn] at c14 hlt hfew
  have HJ := Lib.hid hj
  clear h hv hj hn hlg
  have e1 : IntKind.i64.wrap ((j : Int) + 1) = (j : Int) + 1 := by rw [IntKind.wrap_i64]; omega
  have e2 : IntKind.i64.wrap ((j : Int) + 1 - 1) = (j : Int) := by rw [IntKind.wrap_i64]; omega
  have e3 : ((j : Int)).toNat = j := by omega
  have e4 : (j : Int) < n := by omega
  have e5 : (0 : Int) ≤ j := by omega
  go_enter Tryz.func142, Tryz.ntmps142
  go_wp2_with fail
  go_quiet (fail)
  go_wp2_with fail
  go_quiet (fail)
  go_wp2_with fail
  go_ret2
  rename_i nq0
  have hO : Only (· = mb) w (((w.drewN nq0).setCell ⟨mb, 16, none⟩ (.int .i64 ((j : Int) + 1))).drewN nq) := (((Only.refl (fun j => j = mb) w).drewN _).setCell (.inl rfl) _).drewN _
  refine ⟨rfl, hfin.out _ hO ?_, hO⟩
  have hb := ((HB.out.drewN nq0).setCell 16 (.int .i64 ((j : Int) + 1))).drewN nq
  rw [show (j : Int) + 1 = ((j + 1 : Nat) : Int) by omega, HJ.out] at hb
  rw [show (j : Int) + 1 = ((j + 1 : Nat) : Int) by omega, HJ.out]
  exact hb
set_option maxHeartbeats 2000000 in
theorem mTold_no (h : IsM w mb x lg mk mem) (hv : x.log[x.at_]? = none) :
    Calls Tryz.prog 142 #[.pointer (some ⟨mb, 0, none⟩)] w fun e w' => e = .returned (.tuple #[.int .u64 0, .bool false]) ∧ ∃ k, w' = w.drewN k := by
  have hge : x.log.length ≤ x.at_ := by
    rcases Nat.lt_or_ge x.at_ x.log.length with h1 | h1
    · rw [List.getElem?_eq_getElem h1] at hv; cases hv
    · exact h1
  have hfew := h.few; have hle := h.ok.le
  have c14 : w.cell? ⟨mb, 14, none⟩ = some lg := h.blk.cell 14
  have c16 : w.cell? ⟨mb, 16, none⟩ = some (.int .i64 (x.at_ : Int)) := h.blk.cell 16
  obtain ⟨j, hj⟩ : ∃ j, j = x.at_ := ⟨_, rfl⟩
  obtain ⟨n, hn⟩ : ∃ n, n = x.log.length := ⟨_, rfl⟩
  rw [← hj] at c16 hge hle
  have hlg : ∃ a c, lg = .slice a n c := by
    rcases h.row.2 with ⟨rfl, h0⟩ | ⟨g, cap, cur, rfl, _⟩
    · exact ⟨none, 0, by rw [hn, h0]⟩
    · exact ⟨_, cap, by rw [hn]⟩
  obtain ⟨a, c, rfl⟩ := hlg
  rw [← hn] at hge hle hfew
  have e4 : ¬ (j : Int) < n := by omega
  have e5 : (n : Int) ≤ j := by omega
  clear h hv hj hn
  go_enter Tryz.func142, Tryz.ntmps142
  go_wp2_with fail
  go_quiet (fail)
  go_wp2_with fail
  go_ret2
  exact ⟨rfl, _, rfl⟩
set_option maxHeartbeats 1000000 in
theorem mNow_yes (h : IsM w mb x lg mk mem) (hu : x.used = false) :
    Calls Tryz.prog 143 #[.pointer (some ⟨mb, 0, none⟩)] w fun e w' => e = .returned (.bool true) ∧ w' = w.setCell ⟨mb, 17, none⟩ (.bool true) := by
  have c17 : w.cell? ⟨mb, 17, none⟩ = some (.bool x.used) := h.blk.cell 17
  have f17 := h.blk.frozen 17
  rw [hu] at c17
  clear h
  go_enter Tryz.func143, Tryz.ntmps143
  go_wp2_with fail
  go_ret
  exact ⟨rfl, rfl⟩
set_option maxHeartbeats 1000000 in
theorem mNow_no (h : IsM w mb x lg mk mem) (hu : x.used = true) :
    Calls Tryz.prog 143 #[.pointer (some ⟨mb, 0, none⟩)] w fun e w' => e = .returned (.bool false) ∧ w = w' := by
  have c17 : w.cell? ⟨mb, 17, none⟩ = some (.bool x.used) := h.blk.cell 17
  rw [hu] at c17
  clear h
  go_enter Tryz.func143, Tryz.ntmps143
  go_wp2_with fail
  go_ret
  exact ⟨rfl, rfl⟩
/-- Behind 'now'. -/
theorem IsM.now (h : IsM w mb x lg mk mem) (he : x.log[x.at_]? = none) : IsM (w.setCell ⟨mb, 17, none⟩ (.bool true)) mb { x with used := true } lg mk mem := by
  have hge : x.log.length ≤ x.at_ := by
    rcases Nat.lt_or_ge x.at_ x.log.length with h1 | h1
    · rw [List.getElem?_eq_getElem h1] at he; cases he
    · exact h1
  have hle := h.ok.le
  exact h.turn ((Only.refl (fun j => j = mb) w).setCell (.inl rfl) _) (h.blk.setCell 17 (.bool true)) rfl ⟨hle, fun _ => by show x.at_ = x.log.length; omega⟩ (fun e => by cases e)
theorem infoU64' : (Tryz.prog.info? 48).map (fun i => (i.zero, i.size, i.bytes)) = some (some (.int .u64 0), 1, 8) := by kernel_rfl
theorem Big.back {S : Nat → Prop} {w w' : World} {b : Nat} (h : Big w' b) (ho : Only S w w') (hb : b < w.heap.size) (hs : ¬ S b) : Big w b := by
  obtain ⟨c, t, hc, h2⟩ := h
  exact ⟨c, t, (ho.block b hb hs).symm.trans hc, h2⟩
/-- What a step may turn: the store, the machine, its log's row if it is longer than one. -/
def MT (w : World) (mb : Nat) (lg : Value) (sb sm : Nat) : Nat → Prop := fun b => SB sb sm b ∨ b = mb ∨ (lg.ownBlock = some b ∧ Big w b)
/-- The log's row is the one that it was, or new. -/
def Lg (w : World) (lg lg' : Value) : Prop := ∀ g, lg'.ownBlock = some g → lg.ownBlock = some g ∨ w.heap.size ≤ g
set_option maxRecDepth 100000 in
set_option maxHeartbeats 4000000 in
theorem mTell_any {v : Int} (h : IsM w mb x lg mk (.pointer (some ⟨bb, 0, none⟩))) (hu : x.used = true) (hM : IsMem w bb sb sm rb fb P T s) (hf : x.log.length < 100000) (hv : 0 ≤ v ∧ v < 18446744073709551616) :
    Calls Tryz.prog 145 #[.pointer (some ⟨mb, 0, none⟩), .int .u64 v] w fun e w' => e = .returned (.tuple #[.int .u64 v, .bool true]) ∧
      ∃ lg', IsM w' mb { x.told s with log := x.log ++ [v], at_ := x.at_ + 1 } lg' mk (.pointer (some ⟨bb, 0, none⟩)) ∧ Only (fun b => b = mb ∨ (lg.ownBlock = some b ∧ Big w b)) w w' ∧ Lg w lg lg' := by
  obtain ⟨i0, hi, hz0, hz1, hz2⟩ := info_parts infoU64'
  have hend := h.ok.end_ hu
  have hmb := h.blk.lt
  have m0 : w.cell? ⟨mb, 18, none⟩ = some (.pointer (some ⟨bb, 0, none⟩)) := h.blk.cell 18
  have m1 : w.cell? ⟨bb, 0, none⟩ = some (.pointer (some ⟨sb, 0, none⟩)) := hM.head.cell 0
  obtain ⟨-, q1, q2, q3, q4, -⟩ := hM.st.cells
  have c19 : w.cell? ⟨mb, 19, none⟩ = some (.int .i64 x.d0) := h.blk.cell 19
  have c20 : w.cell? ⟨mb, 20, none⟩ = some (.int .i64 x.d1) := h.blk.cell 20
  have c21 : w.cell? ⟨mb, 21, none⟩ = some (.int .u64 x.d2) := h.blk.cell 21
  have c22 : w.cell? ⟨mb, 22, none⟩ = some (.int .u64 x.d3) := h.blk.cell 22
  have f18 := h.blk.frozen 19; have f19 := h.blk.frozen 20; have f20 := h.blk.frozen 21; have f21 := h.blk.frozen 22
  go_enter Tryz.func145, Tryz.ntmps145
  go_upto_region 2 with fail
  obtain ⟨wa, hwa⟩ : ∃ wa, wa = (((w.setCell ⟨mb, 19, none⟩ (.int .i64 s.k)).setCell ⟨mb, 20, none⟩ (.int .i64 s.pos)).setCell ⟨mb, 21, none⟩ (.int .u64 s.old)).setCell ⟨mb, 22, none⟩ (.int .u64 s.new) := ⟨_, rfl⟩
  have hOa : Only (· = mb) w wa := by rw [hwa]; exact ((((Only.refl (fun j => j = mb) w).setCell (.inl rfl) _).setCell (.inl rfl) _).setCell (.inl rfl) _).setCell (.inl rfl) _
  have hBa : Blk wa mb ((x.told s).arr lg mk (.pointer (some ⟨bb, 0, none⟩))) 95 := by
    rw [hwa]; exact (((h.blk.setCell 19 _).setCell 20 _).setCell 21 _).setCell 22 _
  have hIa : IsM wa mb (x.told s) lg mk (.pointer (some ⟨bb, 0, none⟩)) := h.turn hOa hBa rfl ⟨h.ok.le, h.ok.end_⟩ h.mkn
  rw [← hwa]
  have HW := Lib.hid hwa
  have HO := Lib.hid hOa
  have k14 : wa.cell? ⟨mb, 14, none⟩ = some lg := hBa.cell 14
  have HI := Lib.hid (hIa.adds ((Only.refl (fun _ => False) wa).alloc (.cells #[.int .u64 v] 48)))
  clear hwa hOa hBa m0 m1 q1 q2 q3 q4 c19 c20 c21 c22 f18 f19 f20 f21
  have hrow : Hid ((wa.alloc (.cells #[.int .u64 v] 48)).ownsRow 0 48 1 lg x.log.length (x.log.map (Value.int .u64))) := Lib.hid HI.out.row
  have hnil : Hid (x.log.length = 0 → lg = .slice none 0 0) := Lib.hid h.nil
  obtain ⟨j, hj⟩ : ∃ j, j = x.at_ := ⟨_, rfl⟩
  have HJ := Lib.hid hj
  have hlen : j ≤ 100000 := by omega
  have e1 : IntKind.i64.wrap ((j : Int) + 1) = (j : Int) + 1 := by rw [IntKind.wrap_i64]; omega
  have HM := Lib.hid hM; have HH := Lib.hid h
  have hlen2 : x.log.length + 1 ≤ maxLen := by unfold maxLen; omega
  have hlen3 : (x.log.length + 1) * 8 ≤ 140737488355328 := by omega
  clear hIa h hM hend hj
  go_wp2_with (at_builtin; refine wpList_append_big _ rfl _ _ 87 rfl 0 48 i0 (.int .u64 0) 8 Tryz.underlying87 hi hz0 hz1 hz2 rfl lg x.log.length (x.log.map (Value.int .u64)) rfl hrow.out hnil.out ⟨wa.heap.size, 0, none⟩ 1 (.int .u64 v) rfl (cell_one_new _ _ _) rfl hlen2 hlen3 (Nat.zero_le _) ?_; intro v' w3 hown3 ho3 hat3; obtain ⟨a3, c3, rfl⟩ := ownsRow_slice hown3; have HB3 := Lib.hid (HI.out.blk.only ho3 (fun e => HI.out.ne _ e.1 rfl)); have r14 : w3.cell? ⟨mb, 14, none⟩ = some lg := HB3.out.cell 14; have g14 := HB3.out.frozen 14; have r16 : w3.cell? ⟨mb, 16, none⟩ = some (.int .i64 (j : Int)) := (by rw [HJ.out]; exact HB3.out.cell 16); have g16 := HB3.out.frozen 16; have HR3 := Lib.hid (And.intro hown3 (And.intro ho3 hat3)); clear hown3 ho3 hat3)
  go_ret2
  obtain ⟨hown, ho, hat⟩ := HR3.out
  have hO : Only (· = mb) w3 ((w3.setCell ⟨mb, 14, none⟩ (.slice a3 (x.log.length + 1) c3)).setCell ⟨mb, 16, none⟩ (.int .i64 ((j : Int) + 1))) := ((Only.refl (fun j => j = mb) w3).setCell (.inl rfl) _).setCell (.inl rfl) _
  have hne : ∀ g, (Value.slice a3 (x.log.length + 1) c3).ownBlock = some g → ¬ g = mb := fun g hg e => by
    subst e
    obtain ⟨c, hc⟩ := ownsRow_blk hown hg
    have := (hc.uniq HB3.out).2; revert this; decide
  have hend := HH.out.ok.end_ hu
  have hOA : Only (· = mb) w (wa.alloc (.cells #[.int .u64 v] 48)) := HO.out.alloc _
  have hzA := hOA.size
  refine ⟨rfl, .slice a3 (x.log.length + 1) c3, ⟨?_, ?_, ?_, ⟨?_, fun _ => ?_⟩, ?_, ?_, HH.out.mkn⟩, ?_, ?_⟩
  · have hb := (HB3.out.setCell 14 (.slice a3 (x.log.length + 1) c3)).setCell 16 (.int .i64 ((j : Int) + 1))
    rw [show (j : Int) + 1 = ((j + 1 : Nat) : Int) by omega, HJ.out] at hb
    rw [show (j : Int) + 1 = ((j + 1 : Nat) : Int) by omega, HJ.out]
    exact hb
  · have := ownsRow_only hown hO hne
    simpa using this
  · intro e; simp at e
  · show x.at_ + 1 ≤ (x.log ++ [v]).length
    simp; omega
  · show x.at_ + 1 = (x.log ++ [v]).length
    simp; omega
  · show (x.log ++ [v]).length ≤ 100000
    simp; omega
  · intro u hmem
    rcases List.mem_append.1 hmem with h1 | h1
    · exact HH.out.fit u h1
    · obtain rfl := List.mem_singleton.1 h1
      exact hv
  · refine ((hOA.mono (T := fun b => b = mb ∨ (lg.ownBlock = some b ∧ Big w b)) (fun _ _ e => .inl e)).andThen ho (fun i hi e => .inr ⟨e.1, e.2.back hOA hi (HH.out.ne i e.1)⟩)).andThen hO (fun i _ e => .inl e)
  · intro g hg
    rcases hat with e | e
    · exact .inl (e ▸ hg)
    · rw [e] at hg
      injection hg with hg
      exact .inr (by omega)
end
/-- A machine that is gone through, and its arena. -/
structure MM (w : World) (mb bb sb sm rb fb : Nat) (P T : Int) (s : StoreS) (x : MS) (lg mk : Value) : Prop where
  m : IsM w mb x lg mk (.pointer (some ⟨bb, 0, none⟩))
  mem : IsMem w bb sb sm rb fb P T s
  ne : lg.ownBlock ≠ some sm
section
variable {w w' : World} {mb bb sb sm rb fb : Nat} {P T : Int} {s s' : StoreS} {x y : MS} {lg lg' mk : Value}
theorem MM.mbs (h : MM w mb bb sb sm rb fb P T s x lg mk) : mb ≠ bb ∧ mb ≠ sb ∧ mb ≠ sm ∧ mb ≠ rb ∧ mb ≠ fb := by
  obtain ⟨tl, db, hr⟩ := h.mem.ru
  have k : ∀ {b : Nat} {c : Array Value} {t : TypeId}, Blk w b c t → t ≠ 95 → mb ≠ b := fun hb h1 e => by
    subst e; exact h1 (hb.uniq h.m.blk).2
  exact ⟨k h.mem.head (by decide), k h.mem.st.head (by decide), k h.mem.st.row (by decide), k hr (by decide), k h.mem.fr (by decide)⟩
theorem MM.lgs (h : MM w mb bb sb sm rb fb P T s x lg mk) : ∀ g, lg.ownBlock = some g → g ≠ bb ∧ g ≠ sb ∧ g ≠ sm ∧ g ≠ rb ∧ g ≠ fb := fun g hg => by
  obtain ⟨c, hc⟩ := ownsRow_blk h.m.row hg
  obtain ⟨tl, db, hr⟩ := h.mem.ru
  have k : ∀ {b : Nat} {d : Array Value} {t : TypeId}, Blk w b d t → t ≠ 48 → g ≠ b := fun hb h1 e => by
    subst e; exact h1 (hb.uniq hc).2
  exact ⟨k h.mem.head (by decide), k h.mem.st.head (by decide), fun e => h.ne (e ▸ hg), k hr (by decide), k h.mem.fr (by decide)⟩
theorem MM.adds (h : MM w mb bb sb sm rb fb P T s x lg mk) (ho : Adds w w') : MM w' mb bb sb sm rb fb P T s x lg mk := ⟨h.m.adds ho, h.mem.adds ho, h.ne⟩
theorem MM.acc (h : MM w mb bb sb sm rb fb P T s x lg mk) (ho : Only (SB sb sm) w w') (hs : IsRef w' sb sm s') : MM w' mb bb sb sm rb fb P T s' x lg mk :=
  ⟨h.m.only ho (fun e => e.elim h.mbs.2.1 h.mbs.2.2.1) (fun g hg e => e.elim (h.lgs g hg).2.1 (h.lgs g hg).2.2.1), h.mem.acc ho hs, h.ne⟩
theorem MM.self (h : MM w mb bb sb sm rb fb P T s x lg mk) (ho : Only (fun b => b = mb ∨ (lg.ownBlock = some b ∧ Big w b)) w w') (hm : IsM w' mb y lg' mk (.pointer (some ⟨bb, 0, none⟩))) (hl : Lg w lg lg') : MM w' mb bb sb sm rb fb P T s y lg' mk := by
  obtain ⟨b1, b2, b3, b4, b5⟩ := h.mbs
  have k : ∀ b, mb ≠ b → (∀ g, lg.ownBlock = some g → g ≠ b) → ¬ (b = mb ∨ (lg.ownBlock = some b ∧ Big w b)) := fun b h1 h2 e => e.elim (fun e => h1 e.symm) (fun e => h2 b e.1 rfl)
  refine ⟨hm, h.mem.only ho (k _ b1 (fun g hg => (h.lgs g hg).1)) (k _ b2 (fun g hg => (h.lgs g hg).2.1)) (k _ b3 (fun g hg => (h.lgs g hg).2.2.1)) (k _ b4 (fun g hg => (h.lgs g hg).2.2.2.1)) (k _ b5 (fun g hg => (h.lgs g hg).2.2.2.2)), fun e => ?_⟩
  rcases hl sm e with h1 | h1
  · exact h.ne h1
  · have := h.mem.st.row.lt; omega
theorem MM.turn (h : MM w mb bb sb sm rb fb P T s x lg mk) {mk' : Value} (ho : Only (· = mb) w w') (hm : IsM w' mb y lg mk' (.pointer (some ⟨bb, 0, none⟩))) : MM w' mb bb sb sm rb fb P T s y lg mk' := by
  obtain ⟨b1, b2, b3, b4, b5⟩ := h.mbs
  exact ⟨hm, h.mem.only ho b1.symm b2.symm b3.symm b4.symm b5.symm, h.ne⟩
theorem Lg.refl (w : World) (lg : Value) : Lg w lg lg := fun g h => .inl h
theorem Lg.trans {lg1 lg2 : Value} {w1 : World} (h : Lg w lg lg1) (k : Lg w1 lg1 lg2) (hz : w.heap.size ≤ w1.heap.size) : Lg w lg lg2 := fun g hg => by
  rcases k g hg with h1 | h1
  · exact h g h1
  · exact .inr (by omega)
/-- Two steps of what a machine may turn. -/
theorem MT.trans {w1 w2 : World} {lg1 : Value} (h : Only (MT w mb lg sb sm) w w1) (hl : Lg w lg lg1) (k : Only (MT w1 mb lg1 sb sm) w1 w2) : Only (MT w mb lg sb sm) w w2 :=
  h.andThen k (fun i hi e => by
    rcases e with e | e | ⟨e1, e2⟩
    · exact .inl e
    · exact .inr (.inl e)
    · rcases hl i e1 with e3 | e3
      · by_cases hm : MT w mb lg sb sm i
        · exact hm
        · exact .inr (.inr ⟨e3, e2.back h hi hm⟩)
      · omega)
theorem mt_mb {w1 : World} (h : Only (· = mb) w w1) : Only (MT w mb lg sb sm) w w1 := h.mono (fun _ _ e => .inr (.inl e))
theorem mt_sb {w1 : World} (h : Only (SB sb sm) w w1) : Only (MT w mb lg sb sm) w w1 := h.mono (fun _ _ e => .inl e)
theorem mt_lg {w1 : World} (h : Only (fun b => b = mb ∨ (lg.ownBlock = some b ∧ Big w b)) w w1) : Only (MT w mb lg sb sm) w w1 := h.mono (fun _ _ e => .inr e)
theorem acc_told {c : Ac} {v : Int} (hv : x.log[x.at_]? = some v) : x.acc c s = (some v, { x with at_ := x.at_ + 1 }, s) := by unfold MS.acc; rw [hv]
theorem acc_off {c : Ac} (hv : x.log[x.at_]? = none) (hu : x.used = true) : x.acc c s = (none, x, s) := by unfold MS.acc; rw [hv]; simp [hu]
theorem acc_now {c : Ac} (hv : x.log[x.at_]? = none) (hu : x.used = false) : x.acc c s = (some (s.word c.pos), { x.told (c.act s) with used := true, log := x.log ++ [s.word c.pos], at_ := x.at_ + 1 }, c.act s) := by unfold MS.acc; rw [hv]; simp [hu]
theorem acc_nil {c : Ac} {v : Int} {x1 : MS} {s1 : StoreS} (h : MM w mb bb sb sm rb fb P T s x lg mk) (hr : x.acc c s = (some v, x1, s1)) : mk = .slice none 0 0 := by
  cases hu : x.used
  · exact h.m.mkn hu
  · have he := h.m.ok.end_ hu
    have hv : x.log[x.at_]? = none := List.getElem?_eq_none (by omega)
    rw [acc_off hv hu] at hr
    cases hr
theorem acc_bd {c : Ac} {v : Int} {x1 : MS} {s1 : StoreS} (h : MM w mb bb sb sm rb fb P T s x lg mk) (hr : x.acc c s = (some v, x1, s1)) : 0 ≤ v ∧ v < 18446744073709551616 := by
  rcases hv : x.log[x.at_]? with _ | u
  · cases hu : x.used
    · rw [acc_now hv hu] at hr
      injection hr with h1 _
      injection h1 with h1
      subst h1
      exact StoreS.word_bd h.mem.st.fit _
    · rw [acc_off hv hu] at hr; cases hr
  · rw [acc_told hv] at hr
    injection hr with h1 _
    injection h1 with h1
    subst h1
    exact h.m.fit _ (List.mem_of_getElem? hv)
set_option maxRecDepth 100000 in
set_option maxHeartbeats 1000000 in
theorem mLoad_any {a : Int} (h : MM w mb bb sb sm rb fb P T s x lg mk) (hi : s.inR a) (hf : x.log.length < 100000) {o : Option Int} {x1 : MS} {s1 : StoreS} (hr : x.acc (.load a) s = (o, x1, s1)) :
    Calls Tryz.prog 137 #[.pointer (some ⟨mb, 0, none⟩), .int .i64 a] w fun e w' => e = .returned (.tuple #[.int .u64 (o.getD 0), .bool o.isSome]) ∧ ∃ lg', MM w' mb bb sb sm rb fb P T s1 x1 lg' mk ∧ Only (MT w mb lg sb sm) w w' ∧ Lg w lg lg' := by
  rcases hv : x.log[x.at_]? with _ | v0
  · cases hu : x.used
    · rw [acc_now hv hu] at hr
      injection hr with h1 h2
      injection h2 with h2 h3
      subst h1 h2 h3
      have hwb := StoreS.word_bd h.mem.st.fit a
      have HT := Lib.hid (mTold_no h.m hv)
      have HM := Lib.hid h
      clear h
      go_enter Tryz.func137, Tryz.ntmps137
      go_wp2_with (first
        | (go_at_call 142; refine HT.out.mono ?_; rintro e w2 ⟨rfl, k, rfl⟩; have HMd := Lib.hid (HM.out.adds ((Only.refl (fun _ => False) w).drewN k)))
        | (go_at_call 143; refine (mNow_yes HMd.out.m hu).mono ?_; rintro e w3 ⟨rfl, hw3⟩; have HMn := Lib.hid (show MM w3 mb bb sb sm rb fb P T s { x with used := true } lg mk from (by rw [hw3]; exact HMd.out.turn ((Only.refl (fun j => j = mb) _).setCell (.inl rfl) _) (HMd.out.m.now hv))); have HOn := Lib.hid (show Only (MT w mb lg sb sm) w w3 from (by rw [hw3]; exact mt_mb (((Only.refl (fun j => j = mb) w).drewN k).setCell (.inl rfl) _))); have m18 : w3.cell? ⟨mb, 18, none⟩ = some (.pointer (some ⟨bb, 0, none⟩)) := HMn.out.m.blk.cell 18; have m0 : w3.cell? ⟨bb, 0, none⟩ = some (.pointer (some ⟨sb, 0, none⟩)) := HMn.out.mem.head.cell 0; clear hw3)
        | (go_at_call 179; refine (refLoad_in sb sm a s _ HMn.out.mem.st hi).mono ?_; rintro e w4 ⟨rfl, hs4, ho4⟩; have HM4 := Lib.hid (HMn.out.acc ho4 hs4); have HO4 := Lib.hid (MT.trans HOn.out (Lg.refl _ _) (mt_sb ho4)); have n18 : w4.cell? ⟨mb, 18, none⟩ = some (.pointer (some ⟨bb, 0, none⟩)) := HM4.out.m.blk.cell 18; have n0 : w4.cell? ⟨bb, 0, none⟩ = some (.pointer (some ⟨sb, 0, none⟩)) := HM4.out.mem.head.cell 0; have n3 : w4.cell? ⟨sb, 3, none⟩ = some (.int .u64 (s.word a)) := HM4.out.mem.st.cells.2.2.2.1; clear hs4 ho4)
        | (go_at_call 145; refine (mTell_any HM4.out.m rfl HM4.out.mem hf hwb).mono ?_; rintro e w5 ⟨rfl, lg5, hm5, ho5, hl5⟩; have HM5 := Lib.hid (HM4.out.self ho5 hm5 hl5); have HO5 := Lib.hid (MT.trans HO4.out (Lg.refl _ _) (mt_lg ho5)); have HL5 := Lib.hid (Lg.trans (Lg.refl _ _) hl5 HO4.out.size); clear hm5 ho5 hl5))
      go_ret2
      exact ⟨rfl, lg5, HM5.out, HO5.out, HL5.out⟩
    · rw [acc_off hv hu] at hr
      injection hr with h1 h2
      injection h2 with h2 h3
      subst h1 h2 h3
      have HT := Lib.hid (mTold_no h.m hv)
      have HM := Lib.hid h
      clear h
      go_enter Tryz.func137, Tryz.ntmps137
      go_wp2_with (first
        | (go_at_call 142; refine HT.out.mono ?_; rintro e w2 ⟨rfl, k, rfl⟩)
        | (go_at_call 143; refine (mNow_no (HM.out.m.adds ((Only.refl _ _).drewN k)) hu).mono ?_; rintro e w3 ⟨rfl, rfl⟩))
      go_ret2
      exact ⟨rfl, lg, HM.out.adds ((Only.refl _ _).drewN k), (Only.refl _ _).drewN k, Lg.refl _ _⟩
  · rw [acc_told hv] at hr
    injection hr with h1 h2
    injection h2 with h2 h3
    subst h1 h2 h3
    have HT := Lib.hid (mTold_yes h.m hv)
    have HM := Lib.hid h
    clear h
    go_enter Tryz.func137, Tryz.ntmps137
    go_wp2_with (go_at_call 142; refine HT.out.mono ?_; rintro e w2 ⟨rfl, hm2, ho2⟩)
    go_ret2
    exact ⟨rfl, lg, HM.out.turn ho2 hm2, mt_mb ho2, Lg.refl _ _⟩
set_option maxRecDepth 100000 in
set_option maxHeartbeats 1000000 in
theorem mPut_any {a v : Int} (h : MM w mb bb sb sm rb fb P T s x lg mk) (hi : s.inR a) (hf : x.log.length < 100000) (hv2 : 0 ≤ v ∧ v < 18446744073709551616) {o : Option Int} {x1 : MS} {s1 : StoreS} (hr : x.acc (.put a v) s = (o, x1, s1)) :
    Calls Tryz.prog 109 #[.pointer (some ⟨mb, 0, none⟩), .int .i64 a, .int .u64 v] w fun e w' => e = .returned (.tuple #[.int .u64 (o.getD 0), .bool o.isSome]) ∧ ∃ lg', MM w' mb bb sb sm rb fb P T s1 x1 lg' mk ∧ Only (MT w mb lg sb sm) w w' ∧ Lg w lg lg' := by
  rcases hv : x.log[x.at_]? with _ | v0
  · cases hu : x.used
    · rw [acc_now hv hu] at hr
      injection hr with h1 h2
      injection h2 with h2 h3
      subst h1 h2 h3
      have hwb := StoreS.word_bd h.mem.st.fit a
      have HT := Lib.hid (mTold_no h.m hv)
      have HM := Lib.hid h
      clear h
      go_enter Tryz.func109, Tryz.ntmps109
      go_wp2_with (first
        | (go_at_call 142; refine HT.out.mono ?_; rintro e w2 ⟨rfl, k, rfl⟩; have HMd := Lib.hid (HM.out.adds ((Only.refl (fun _ => False) w).drewN k)))
        | (go_at_call 143; refine (mNow_yes HMd.out.m hu).mono ?_; rintro e w3 ⟨rfl, hw3⟩; have HMn := Lib.hid (show MM w3 mb bb sb sm rb fb P T s { x with used := true } lg mk from (by rw [hw3]; exact HMd.out.turn ((Only.refl (fun j => j = mb) _).setCell (.inl rfl) _) (HMd.out.m.now hv))); have HOn := Lib.hid (show Only (MT w mb lg sb sm) w w3 from (by rw [hw3]; exact mt_mb (((Only.refl (fun j => j = mb) w).drewN k).setCell (.inl rfl) _))); have m18 : w3.cell? ⟨mb, 18, none⟩ = some (.pointer (some ⟨bb, 0, none⟩)) := HMn.out.m.blk.cell 18; have m0 : w3.cell? ⟨bb, 0, none⟩ = some (.pointer (some ⟨sb, 0, none⟩)) := HMn.out.mem.head.cell 0; clear hw3)
        | (go_at_call 144; refine (refPut_in sb sm a v s _ HMn.out.mem.st hi hv2.1 hv2.2).mono ?_; rintro e w4 ⟨rfl, hs4, ho4⟩; have HM4 := Lib.hid (HMn.out.acc ho4 hs4); have HO4 := Lib.hid (MT.trans HOn.out (Lg.refl _ _) (mt_sb ho4)); have n18 : w4.cell? ⟨mb, 18, none⟩ = some (.pointer (some ⟨bb, 0, none⟩)) := HM4.out.m.blk.cell 18; have n0 : w4.cell? ⟨bb, 0, none⟩ = some (.pointer (some ⟨sb, 0, none⟩)) := HM4.out.mem.head.cell 0; have n3 : w4.cell? ⟨sb, 3, none⟩ = some (.int .u64 (s.word a)) := HM4.out.mem.st.cells.2.2.2.1; clear hs4 ho4)
        | (go_at_call 145; refine (mTell_any HM4.out.m rfl HM4.out.mem hf hwb).mono ?_; rintro e w5 ⟨rfl, lg5, hm5, ho5, hl5⟩; have HM5 := Lib.hid (HM4.out.self ho5 hm5 hl5); have HO5 := Lib.hid (MT.trans HO4.out (Lg.refl _ _) (mt_lg ho5)); have HL5 := Lib.hid (Lg.trans (Lg.refl _ _) hl5 HO4.out.size); clear hm5 ho5 hl5))
      go_ret2
      exact ⟨rfl, lg5, HM5.out, HO5.out, HL5.out⟩
    · rw [acc_off hv hu] at hr
      injection hr with h1 h2
      injection h2 with h2 h3
      subst h1 h2 h3
      have HT := Lib.hid (mTold_no h.m hv)
      have HM := Lib.hid h
      clear h
      go_enter Tryz.func109, Tryz.ntmps109
      go_wp2_with (first
        | (go_at_call 142; refine HT.out.mono ?_; rintro e w2 ⟨rfl, k, rfl⟩)
        | (go_at_call 143; refine (mNow_no (HM.out.m.adds ((Only.refl _ _).drewN k)) hu).mono ?_; rintro e w3 ⟨rfl, rfl⟩))
      go_ret2
      exact ⟨rfl, lg, HM.out.adds ((Only.refl _ _).drewN k), (Only.refl _ _).drewN k, Lg.refl _ _⟩
  · rw [acc_told hv] at hr
    injection hr with h1 h2
    injection h2 with h2 h3
    subst h1 h2 h3
    have HT := Lib.hid (mTold_yes h.m hv)
    have HM := Lib.hid h
    clear h
    go_enter Tryz.func109, Tryz.ntmps109
    go_wp2_with (go_at_call 142; refine HT.out.mono ?_; rintro e w2 ⟨rfl, hm2, ho2⟩)
    go_ret2
    exact ⟨rfl, lg, HM.out.turn ho2 hm2, mt_mb ho2, Lg.refl _ _⟩
set_option maxRecDepth 100000 in
set_option maxHeartbeats 1000000 in
theorem mAdd_any {a v : Int} (h : MM w mb bb sb sm rb fb P T s x lg mk) (hi : s.inR a) (hf : x.log.length < 100000) {o : Option Int} {x1 : MS} {s1 : StoreS} (hr : x.acc (.add a v) s = (o, x1, s1)) :
    Calls Tryz.prog 152 #[.pointer (some ⟨mb, 0, none⟩), .int .i64 a, .int .u64 v] w fun e w' => e = .returned (.tuple #[.int .u64 (o.getD 0), .bool o.isSome]) ∧ ∃ lg', MM w' mb bb sb sm rb fb P T s1 x1 lg' mk ∧ Only (MT w mb lg sb sm) w w' ∧ Lg w lg lg' := by
  rcases hv : x.log[x.at_]? with _ | v0
  · cases hu : x.used
    · rw [acc_now hv hu] at hr
      injection hr with h1 h2
      injection h2 with h2 h3
      subst h1 h2 h3
      have hwb := StoreS.word_bd h.mem.st.fit a
      have HT := Lib.hid (mTold_no h.m hv)
      have HM := Lib.hid h
      clear h
      go_enter Tryz.func152, Tryz.ntmps152
      go_wp2_with (first
        | (go_at_call 142; refine HT.out.mono ?_; rintro e w2 ⟨rfl, k, rfl⟩; have HMd := Lib.hid (HM.out.adds ((Only.refl (fun _ => False) w).drewN k)))
        | (go_at_call 143; refine (mNow_yes HMd.out.m hu).mono ?_; rintro e w3 ⟨rfl, hw3⟩; have HMn := Lib.hid (show MM w3 mb bb sb sm rb fb P T s { x with used := true } lg mk from (by rw [hw3]; exact HMd.out.turn ((Only.refl (fun j => j = mb) _).setCell (.inl rfl) _) (HMd.out.m.now hv))); have HOn := Lib.hid (show Only (MT w mb lg sb sm) w w3 from (by rw [hw3]; exact mt_mb (((Only.refl (fun j => j = mb) w).drewN k).setCell (.inl rfl) _))); have m18 : w3.cell? ⟨mb, 18, none⟩ = some (.pointer (some ⟨bb, 0, none⟩)) := HMn.out.m.blk.cell 18; have m0 : w3.cell? ⟨bb, 0, none⟩ = some (.pointer (some ⟨sb, 0, none⟩)) := HMn.out.mem.head.cell 0; clear hw3)
        | (go_at_call 191; refine (refAdd_in sb sm a v s _ HMn.out.mem.st hi).mono ?_; rintro e w4 ⟨rfl, hs4, ho4⟩; have HM4 := Lib.hid (HMn.out.acc ho4 hs4); have HO4 := Lib.hid (MT.trans HOn.out (Lg.refl _ _) (mt_sb ho4)); have n18 : w4.cell? ⟨mb, 18, none⟩ = some (.pointer (some ⟨bb, 0, none⟩)) := HM4.out.m.blk.cell 18; have n0 : w4.cell? ⟨bb, 0, none⟩ = some (.pointer (some ⟨sb, 0, none⟩)) := HM4.out.mem.head.cell 0; have n3 : w4.cell? ⟨sb, 3, none⟩ = some (.int .u64 (s.word a)) := HM4.out.mem.st.cells.2.2.2.1; clear hs4 ho4)
        | (go_at_call 145; refine (mTell_any HM4.out.m rfl HM4.out.mem hf hwb).mono ?_; rintro e w5 ⟨rfl, lg5, hm5, ho5, hl5⟩; have HM5 := Lib.hid (HM4.out.self ho5 hm5 hl5); have HO5 := Lib.hid (MT.trans HO4.out (Lg.refl _ _) (mt_lg ho5)); have HL5 := Lib.hid (Lg.trans (Lg.refl _ _) hl5 HO4.out.size); clear hm5 ho5 hl5))
      go_ret2
      exact ⟨rfl, lg5, HM5.out, HO5.out, HL5.out⟩
    · rw [acc_off hv hu] at hr
      injection hr with h1 h2
      injection h2 with h2 h3
      subst h1 h2 h3
      have HT := Lib.hid (mTold_no h.m hv)
      have HM := Lib.hid h
      clear h
      go_enter Tryz.func152, Tryz.ntmps152
      go_wp2_with (first
        | (go_at_call 142; refine HT.out.mono ?_; rintro e w2 ⟨rfl, k, rfl⟩)
        | (go_at_call 143; refine (mNow_no (HM.out.m.adds ((Only.refl _ _).drewN k)) hu).mono ?_; rintro e w3 ⟨rfl, rfl⟩))
      go_ret2
      exact ⟨rfl, lg, HM.out.adds ((Only.refl _ _).drewN k), (Only.refl _ _).drewN k, Lg.refl _ _⟩
  · rw [acc_told hv] at hr
    injection hr with h1 h2
    injection h2 with h2 h3
    subst h1 h2 h3
    have HT := Lib.hid (mTold_yes h.m hv)
    have HM := Lib.hid h
    clear h
    go_enter Tryz.func152, Tryz.ntmps152
    go_wp2_with (go_at_call 142; refine HT.out.mono ?_; rintro e w2 ⟨rfl, hm2, ho2⟩)
    go_ret2
    exact ⟨rfl, lg, HM.out.turn ho2 hm2, mt_mb ho2, Lg.refl _ _⟩
def casR (o : Option Int) (ol : Int) : Bool := match o with
  | some v => v == ol
  | none => false
set_option maxRecDepth 100000 in
set_option maxHeartbeats 1000000 in
theorem mCas_any {a ol v : Int} (h : MM w mb bb sb sm rb fb P T s x lg mk) (hi : s.inR a) (hf : x.log.length < 100000) (hv2 : 0 ≤ v ∧ v < 18446744073709551616) {o : Option Int} {x1 : MS} {s1 : StoreS} (hr : x.acc (.cas a ol v) s = (o, x1, s1)) :
    Calls Tryz.prog 140 #[.pointer (some ⟨mb, 0, none⟩), .int .i64 a, .int .u64 ol, .int .u64 v] w fun e w' => e = .returned (.tuple #[.bool (casR o ol), .bool o.isSome]) ∧ ∃ lg', MM w' mb bb sb sm rb fb P T s1 x1 lg' mk ∧ Only (MT w mb lg sb sm) w w' ∧ Lg w lg lg' := by
  rcases hv : x.log[x.at_]? with _ | v0
  · cases hu : x.used
    · rw [acc_now hv hu] at hr
      injection hr with h1 h2
      injection h2 with h2 h3
      subst h1 h2 h3
      by_cases hw : s.word a = ol
      · have hact : (Ac.cas a ol v).act s = s.acc 3 a v := if_pos hw
        rw [hact]
        clear hact
        have HWo := Lib.hid hw
        clear hw
        have hwb := StoreS.word_bd h.mem.st.fit a
        have HT := Lib.hid (mTold_no h.m hv)
        have HM := Lib.hid h
        clear h
        go_enter Tryz.func140, Tryz.ntmps140
        go_wp2_with (first
          | (go_at_call 142; refine HT.out.mono ?_; rintro e w2 ⟨rfl, k, rfl⟩; have HMd := Lib.hid (HM.out.adds ((Only.refl (fun _ => False) w).drewN k)))
          | (go_at_call 143; refine (mNow_yes HMd.out.m hu).mono ?_; rintro e w3 ⟨rfl, hw3⟩; have HMn := Lib.hid (show MM w3 mb bb sb sm rb fb P T s { x with used := true } lg mk from (by rw [hw3]; exact HMd.out.turn ((Only.refl (fun j => j = mb) _).setCell (.inl rfl) _) (HMd.out.m.now hv))); have HOn := Lib.hid (show Only (MT w mb lg sb sm) w w3 from (by rw [hw3]; exact mt_mb (((Only.refl (fun j => j = mb) w).drewN k).setCell (.inl rfl) _))); have m18 : w3.cell? ⟨mb, 18, none⟩ = some (.pointer (some ⟨bb, 0, none⟩)) := HMn.out.m.blk.cell 18; have m0 : w3.cell? ⟨bb, 0, none⟩ = some (.pointer (some ⟨sb, 0, none⟩)) := HMn.out.mem.head.cell 0; clear hw3)
          | (go_at_call 182; refine (refCas_win sb sm a ol v s _ HMn.out.mem.st hi (by simp [HWo.out]) hv2.1 hv2.2).mono ?_; rintro e w4 ⟨rfl, hs4, ho4⟩; have HM4 := Lib.hid (HMn.out.acc ho4 hs4); have HO4 := Lib.hid (MT.trans HOn.out (Lg.refl _ _) (mt_sb ho4)); have n18 : w4.cell? ⟨mb, 18, none⟩ = some (.pointer (some ⟨bb, 0, none⟩)) := HM4.out.m.blk.cell 18; have n0 : w4.cell? ⟨bb, 0, none⟩ = some (.pointer (some ⟨sb, 0, none⟩)) := HM4.out.mem.head.cell 0; have n3 : w4.cell? ⟨sb, 3, none⟩ = some (.int .u64 (s.word a)) := HM4.out.mem.st.cells.2.2.2.1; clear hs4 ho4)
          | (go_at_call 145; refine (mTell_any HM4.out.m rfl HM4.out.mem hf hwb).mono ?_; rintro e w5 ⟨rfl, lg5, hm5, ho5, hl5⟩; have HM5 := Lib.hid (HM4.out.self ho5 hm5 hl5); have HO5 := Lib.hid (MT.trans HO4.out (Lg.refl _ _) (mt_lg ho5)); have HL5 := Lib.hid (Lg.trans (Lg.refl _ _) hl5 HO4.out.size); clear hm5 ho5 hl5))
        go_ret2
        exact ⟨rfl, lg5, HM5.out, HO5.out, HL5.out⟩
      · have hact : (Ac.cas a ol v).act s = s.acc 4 a (s.word a) := if_neg hw
        rw [hact]
        clear hact
        have HWo := Lib.hid hw
        clear hw
        have hwb := StoreS.word_bd h.mem.st.fit a
        have HT := Lib.hid (mTold_no h.m hv)
        have HM := Lib.hid h
        clear h
        go_enter Tryz.func140, Tryz.ntmps140
        go_wp2_with (first
          | (go_at_call 142; refine HT.out.mono ?_; rintro e w2 ⟨rfl, k, rfl⟩; have HMd := Lib.hid (HM.out.adds ((Only.refl (fun _ => False) w).drewN k)))
          | (go_at_call 143; refine (mNow_yes HMd.out.m hu).mono ?_; rintro e w3 ⟨rfl, hw3⟩; have HMn := Lib.hid (show MM w3 mb bb sb sm rb fb P T s { x with used := true } lg mk from (by rw [hw3]; exact HMd.out.turn ((Only.refl (fun j => j = mb) _).setCell (.inl rfl) _) (HMd.out.m.now hv))); have HOn := Lib.hid (show Only (MT w mb lg sb sm) w w3 from (by rw [hw3]; exact mt_mb (((Only.refl (fun j => j = mb) w).drewN k).setCell (.inl rfl) _))); have m18 : w3.cell? ⟨mb, 18, none⟩ = some (.pointer (some ⟨bb, 0, none⟩)) := HMn.out.m.blk.cell 18; have m0 : w3.cell? ⟨bb, 0, none⟩ = some (.pointer (some ⟨sb, 0, none⟩)) := HMn.out.mem.head.cell 0; clear hw3)
          | (go_at_call 182; refine (refCas_lost sb sm a ol v s _ HMn.out.mem.st hi (by simpa using HWo.out)).mono ?_; rintro e w4 ⟨rfl, hs4, ho4⟩; have HM4 := Lib.hid (HMn.out.acc ho4 hs4); have HO4 := Lib.hid (MT.trans HOn.out (Lg.refl _ _) (mt_sb ho4)); have n18 : w4.cell? ⟨mb, 18, none⟩ = some (.pointer (some ⟨bb, 0, none⟩)) := HM4.out.m.blk.cell 18; have n0 : w4.cell? ⟨bb, 0, none⟩ = some (.pointer (some ⟨sb, 0, none⟩)) := HM4.out.mem.head.cell 0; have n3 : w4.cell? ⟨sb, 3, none⟩ = some (.int .u64 (s.word a)) := HM4.out.mem.st.cells.2.2.2.1; clear hs4 ho4)
          | (go_at_call 145; refine (mTell_any HM4.out.m rfl HM4.out.mem hf hwb).mono ?_; rintro e w5 ⟨rfl, lg5, hm5, ho5, hl5⟩; have HM5 := Lib.hid (HM4.out.self ho5 hm5 hl5); have HO5 := Lib.hid (MT.trans HO4.out (Lg.refl _ _) (mt_lg ho5)); have HL5 := Lib.hid (Lg.trans (Lg.refl _ _) hl5 HO4.out.size); clear hm5 ho5 hl5))
        go_ret2
        exact ⟨rfl, lg5, HM5.out, HO5.out, HL5.out⟩
    · rw [acc_off hv hu] at hr
      injection hr with h1 h2
      injection h2 with h2 h3
      subst h1 h2 h3
      have HT := Lib.hid (mTold_no h.m hv)
      have HM := Lib.hid h
      clear h
      go_enter Tryz.func140, Tryz.ntmps140
      go_wp2_with (first
        | (go_at_call 142; refine HT.out.mono ?_; rintro e w2 ⟨rfl, k, rfl⟩)
        | (go_at_call 143; refine (mNow_no (HM.out.m.adds ((Only.refl _ _).drewN k)) hu).mono ?_; rintro e w3 ⟨rfl, rfl⟩))
      go_ret2
      exact ⟨rfl, lg, HM.out.adds ((Only.refl _ _).drewN k), (Only.refl _ _).drewN k, Lg.refl _ _⟩
  · rw [acc_told hv] at hr
    injection hr with h1 h2
    injection h2 with h2 h3
    subst h1 h2 h3
    have HT := Lib.hid (mTold_yes h.m hv)
    have HM := Lib.hid h
    clear h
    go_enter Tryz.func140, Tryz.ntmps140
    go_wp2_with (go_at_call 142; refine HT.out.mono ?_; rintro e w2 ⟨rfl, hm2, ho2⟩)
    go_ret2
    exact ⟨rfl, lg, HM.out.turn ho2 hm2, mt_mb ho2, Lg.refl _ _⟩
end
theorem infoMark : (Tryz.prog.info? 220).map (fun i => (i.zero, i.size, i.bytes)) = some (some (.agg #[.int .i64 0, .int .i64 0, .int .i64 0, .int .i64 0, .int .i64 0, .int .u64 0]), 6, 48) := by kernel_rfl
section
variable {w w' : World} {mb bb sb sm rb fb : Nat} {P T : Int} {s s' : StoreS} {x y : MS} {lg lg' mk : Value}
set_option maxRecDepth 100000 in
set_option maxHeartbeats 2000000 in
theorem mMark_off {k p n m : Int} (h : MM w mb bb sb sm rb fb P T s x lg mk) (hu : x.used = false) :
    Calls Tryz.prog 141 #[.pointer (some ⟨mb, 0, none⟩), .int .i64 k, .int .i64 p, .int .i64 n, .int .u64 m] w fun e w' => e = .returned (.tuple #[]) ∧ w = w' := by
  have c17 : w.cell? ⟨mb, 17, none⟩ = some (.bool x.used) := h.m.blk.cell 17
  rw [hu] at c17
  clear h
  go_enter Tryz.func141, Tryz.ntmps141
  go_wp2_with fail
  go_end0
  exact ⟨rfl, rfl⟩
set_option maxRecDepth 100000 in
set_option maxHeartbeats 2000000 in
theorem mMark_on {k p n m : Int} (h : IsM w mb x lg (.slice none 0 0) (.pointer (some ⟨bb, 0, none⟩))) (hu : x.used = true) :
    Calls Tryz.prog 141 #[.pointer (some ⟨mb, 0, none⟩), .int .i64 k, .int .i64 p, .int .i64 n, .int .u64 m] w fun e w' => e = .returned (.tuple #[]) ∧ ∃ mk, IsM w' mb x lg mk (.pointer (some ⟨bb, 0, none⟩)) ∧ Only (· = mb) w w' := by
  obtain ⟨i0, hi, hz0, hz1, hz2⟩ := info_parts infoMark
  have c17 : w.cell? ⟨mb, 17, none⟩ = some (.bool x.used) := h.blk.cell 17
  rw [hu] at c17
  obtain ⟨ar, har⟩ : ∃ ar, ar = x.arr lg (.slice none 0 0) (.pointer (some ⟨bb, 0, none⟩)) := ⟨_, rfl⟩
  have a3 : ar[3]? = some (.int .i64 x.thread) := by rw [har]; rfl
  have a16 : ar[16]? = some (.int .i64 (x.at_ : Int)) := by rw [har]; rfl
  have a29 : ar[29]? = some (.slice none 0 0) := by rw [har]; rfl
  have HB : Hid (Blk w mb ar 95) := Lib.hid (by rw [har]; exact h.blk)
  have H := Lib.hid h
  have HR := Lib.hid har
  have hat := h.ok.le
  have hfew := h.few
  obtain ⟨th, hth⟩ : ∃ th, th = x.thread := ⟨_, rfl⟩
  obtain ⟨j, hj⟩ : ∃ j : Int, j = (x.at_ : Int) := ⟨_, rfl⟩
  rw [← hth] at a3
  rw [← hj] at a16
  have e1 : IntKind.i64.wrap (j - 1) = j - 1 := by rw [IntKind.wrap_i64]; omega
  clear h har hth hj hat hfew
  go_enter Tryz.func141, Tryz.ntmps141
  go_upto_region 1 with fail
  refine AnyU.region (S := (fun W => Blk W mb ar 95 ∧ Adds w W)) (k := 23) (by kernel_rfl) ⟨HB.out.only ((Only.refl (fun _ => False) w).drew) (id : ¬ False), (Only.refl (fun _ => False) w).drew⟩ (fun hHeld => ?_)
  refine AnyU.take (i := 0) (v := (.pointer (some ⟨mb, 0, none⟩))) rfl rfl (by kernel_rfl) (by kernel_rfl) (by kernel_rfl) (by kernel_rfl) (by kernel_rfl) (by decide) (fun _ _ _ h => h) (Or.inl ⟨by rfl, fun W hS => by first | rfl | (go_simp; done)⟩) hHeld ?_
  try simp only [Act.put, List.getElem_toArray, List.getElem_cons_succ, List.getElem_cons_zero, List.setIfInBounds_toArray, List.set_cons_zero, List.set_cons_succ]
  refine AnyU.take (i := 1) (v := (.pointer (some ⟨mb, 0, none⟩))) rfl rfl (by kernel_rfl) (by kernel_rfl) (by kernel_rfl) (by kernel_rfl) (by kernel_rfl) (by decide) (fun _ _ _ h => h) (Or.inl ⟨by rfl, fun W hS => by first | rfl | (go_simp; done)⟩) hHeld ?_
  try simp only [Act.put, List.getElem_toArray, List.getElem_cons_succ, List.getElem_cons_zero, List.setIfInBounds_toArray, List.set_cons_zero, List.set_cons_succ]
  refine AnyU.take (i := 2) (v := (.pointer (some ⟨mb, 0, none⟩))) rfl rfl (by kernel_rfl) (by kernel_rfl) (by kernel_rfl) (by kernel_rfl) (by kernel_rfl) (by decide) (fun _ _ _ h => h) (Or.inl ⟨by rfl, fun W hS => by first | rfl | (go_simp; done)⟩) hHeld ?_
  try simp only [Act.put, List.getElem_toArray, List.getElem_cons_succ, List.getElem_cons_zero, List.setIfInBounds_toArray, List.set_cons_zero, List.set_cons_succ]
  refine AnyU.take (i := 3) (v := (.pointer (some ⟨mb, 29, none⟩))) rfl rfl (by kernel_rfl) (by kernel_rfl) (by kernel_rfl) (by kernel_rfl) (by kernel_rfl) (by decide) (fun _ _ _ h => h) (Or.inl ⟨by rfl, fun W hS => by first | rfl | (go_simp; done)⟩) hHeld ?_
  try simp only [Act.put, List.getElem_toArray, List.getElem_cons_succ, List.getElem_cons_zero, List.setIfInBounds_toArray, List.set_cons_zero, List.set_cons_succ]
  refine AnyU.take (i := 4) (v := (.slice none 0 0)) rfl rfl (by kernel_rfl) (by kernel_rfl) (by kernel_rfl) (by kernel_rfl) (by kernel_rfl) (by decide) (fun _ _ _ h => h) (Or.inl ⟨by rfl, fun W hS => by (have q1 := (hS.1.cell 29).trans a29; go_simp)⟩) hHeld ?_
  try simp only [Act.put, List.getElem_toArray, List.getElem_cons_succ, List.getElem_cons_zero, List.setIfInBounds_toArray, List.set_cons_zero, List.set_cons_succ]
  refine AnyU.take (i := 5) (v := (.int .i64 k)) rfl rfl (by kernel_rfl) (by kernel_rfl) (by kernel_rfl) (by kernel_rfl) (by kernel_rfl) (by decide) (fun _ _ _ h => h) (Or.inl ⟨by rfl, fun W hS => by first | rfl | (go_simp; done)⟩) hHeld ?_
  try simp only [Act.put, List.getElem_toArray, List.getElem_cons_succ, List.getElem_cons_zero, List.setIfInBounds_toArray, List.set_cons_zero, List.set_cons_succ]
  refine AnyU.take (i := 6) (v := (.pointer (some ⟨mb, 0, none⟩))) rfl rfl (by kernel_rfl) (by kernel_rfl) (by kernel_rfl) (by kernel_rfl) (by kernel_rfl) (by decide) (fun _ _ _ h => h) (Or.inl ⟨by rfl, fun W hS => by first | rfl | (go_simp; done)⟩) hHeld ?_
  try simp only [Act.put, List.getElem_toArray, List.getElem_cons_succ, List.getElem_cons_zero, List.setIfInBounds_toArray, List.set_cons_zero, List.set_cons_succ]
  refine AnyU.take (i := 7) (v := (.pointer (some ⟨mb, 0, none⟩))) rfl rfl (by kernel_rfl) (by kernel_rfl) (by kernel_rfl) (by kernel_rfl) (by kernel_rfl) (by decide) (fun _ _ _ h => h) (Or.inl ⟨by rfl, fun W hS => by first | rfl | (go_simp; done)⟩) hHeld ?_
  try simp only [Act.put, List.getElem_toArray, List.getElem_cons_succ, List.getElem_cons_zero, List.setIfInBounds_toArray, List.set_cons_zero, List.set_cons_succ]
  refine AnyU.take (i := 8) (v := (.pointer (some ⟨mb, 3, none⟩))) rfl rfl (by kernel_rfl) (by kernel_rfl) (by kernel_rfl) (by kernel_rfl) (by kernel_rfl) (by decide) (fun _ _ _ h => h) (Or.inl ⟨by rfl, fun W hS => by first | rfl | (go_simp; done)⟩) hHeld ?_
  try simp only [Act.put, List.getElem_toArray, List.getElem_cons_succ, List.getElem_cons_zero, List.setIfInBounds_toArray, List.set_cons_zero, List.set_cons_succ]
  refine AnyU.take (i := 9) (v := (.int .i64 th)) rfl rfl (by kernel_rfl) (by kernel_rfl) (by kernel_rfl) (by kernel_rfl) (by kernel_rfl) (by decide) (fun _ _ _ h => h) (Or.inl ⟨by rfl, fun W hS => by (have q1 := (hS.1.cell 3).trans a3; go_simp)⟩) hHeld ?_
  try simp only [Act.put, List.getElem_toArray, List.getElem_cons_succ, List.getElem_cons_zero, List.setIfInBounds_toArray, List.set_cons_zero, List.set_cons_succ]
  refine AnyU.take (i := 10) (v := (.pointer (some ⟨mb, 0, none⟩))) rfl rfl (by kernel_rfl) (by kernel_rfl) (by kernel_rfl) (by kernel_rfl) (by kernel_rfl) (by decide) (fun _ _ _ h => h) (Or.inl ⟨by rfl, fun W hS => by first | rfl | (go_simp; done)⟩) hHeld ?_
  try simp only [Act.put, List.getElem_toArray, List.getElem_cons_succ, List.getElem_cons_zero, List.setIfInBounds_toArray, List.set_cons_zero, List.set_cons_succ]
  refine AnyU.take (i := 11) (v := (.pointer (some ⟨mb, 0, none⟩))) rfl rfl (by kernel_rfl) (by kernel_rfl) (by kernel_rfl) (by kernel_rfl) (by kernel_rfl) (by decide) (fun _ _ _ h => h) (Or.inl ⟨by rfl, fun W hS => by first | rfl | (go_simp; done)⟩) hHeld ?_
  try simp only [Act.put, List.getElem_toArray, List.getElem_cons_succ, List.getElem_cons_zero, List.setIfInBounds_toArray, List.set_cons_zero, List.set_cons_succ]
  refine AnyU.take (i := 12) (v := (.pointer (some ⟨mb, 16, none⟩))) rfl rfl (by kernel_rfl) (by kernel_rfl) (by kernel_rfl) (by kernel_rfl) (by kernel_rfl) (by decide) (fun _ _ _ h => h) (Or.inl ⟨by rfl, fun W hS => by first | rfl | (go_simp; done)⟩) hHeld ?_
  try simp only [Act.put, List.getElem_toArray, List.getElem_cons_succ, List.getElem_cons_zero, List.setIfInBounds_toArray, List.set_cons_zero, List.set_cons_succ]
  refine AnyU.take (i := 13) (v := (.int .i64 j)) rfl rfl (by kernel_rfl) (by kernel_rfl) (by kernel_rfl) (by kernel_rfl) (by kernel_rfl) (by decide) (fun _ _ _ h => h) (Or.inl ⟨by rfl, fun W hS => by (have q1 := (hS.1.cell 16).trans a16; go_simp)⟩) hHeld ?_
  try simp only [Act.put, List.getElem_toArray, List.getElem_cons_succ, List.getElem_cons_zero, List.setIfInBounds_toArray, List.set_cons_zero, List.set_cons_succ]
  refine AnyU.take (i := 14) (v := (.int .i64 (j - 1))) rfl rfl (by kernel_rfl) (by kernel_rfl) (by kernel_rfl) (by kernel_rfl) (by kernel_rfl) (by decide) (fun _ _ _ h => h) (Or.inl ⟨by rfl, fun W hS => by first | rfl | (go_simp; done)⟩) hHeld ?_
  try simp only [Act.put, List.getElem_toArray, List.getElem_cons_succ, List.getElem_cons_zero, List.setIfInBounds_toArray, List.set_cons_zero, List.set_cons_succ]
  refine AnyU.take (i := 15) (v := (.int .i64 p)) rfl rfl (by kernel_rfl) (by kernel_rfl) (by kernel_rfl) (by kernel_rfl) (by kernel_rfl) (by decide) (fun _ _ _ h => h) (Or.inl ⟨by rfl, fun W hS => by first | rfl | (go_simp; done)⟩) hHeld ?_
  try simp only [Act.put, List.getElem_toArray, List.getElem_cons_succ, List.getElem_cons_zero, List.setIfInBounds_toArray, List.set_cons_zero, List.set_cons_succ]
  refine AnyU.take (i := 16) (v := (.int .i64 n)) rfl rfl (by kernel_rfl) (by kernel_rfl) (by kernel_rfl) (by kernel_rfl) (by kernel_rfl) (by decide) (fun _ _ _ h => h) (Or.inl ⟨by rfl, fun W hS => by first | rfl | (go_simp; done)⟩) hHeld ?_
  try simp only [Act.put, List.getElem_toArray, List.getElem_cons_succ, List.getElem_cons_zero, List.setIfInBounds_toArray, List.set_cons_zero, List.set_cons_succ]
  refine AnyU.take (i := 17) (v := (.int .u64 m)) rfl rfl (by kernel_rfl) (by kernel_rfl) (by kernel_rfl) (by kernel_rfl) (by kernel_rfl) (by decide) (fun _ _ _ h => h) (Or.inl ⟨by rfl, fun W hS => by first | rfl | (go_simp; done)⟩) hHeld ?_
  try simp only [Act.put, List.getElem_toArray, List.getElem_cons_succ, List.getElem_cons_zero, List.setIfInBounds_toArray, List.set_cons_zero, List.set_cons_succ]
  refine AnyU.take (i := 18) (v := (.agg #[.int .i64 k, .int .i64 th, .int .i64 (j - 1), .int .i64 p, .int .i64 n, .int .u64 m])) rfl rfl (by kernel_rfl) (by kernel_rfl) (by kernel_rfl) (by kernel_rfl) (by kernel_rfl) (by decide) (fun _ _ _ h => h) (Or.inl ⟨by rfl, fun W hS => by first | rfl | (go_simp; done)⟩) hHeld ?_
  try simp only [Act.put, List.getElem_toArray, List.getElem_cons_succ, List.getElem_cons_zero, List.setIfInBounds_toArray, List.set_cons_zero, List.set_cons_succ]
  refine AnyU.one (i := 19) rfl (by kernel_rfl) (fun K hK => ?_)
  simp only [List.getElem_toArray, List.getElem_cons_succ, List.getElem_cons_zero]
  go_simp
  have hN : Blk (w.drew.alloc (.cells #[.int .i64 k, .int .i64 th, .int .i64 (j - 1), .int .i64 p, .int .i64 n, .int .u64 m] 220)) w.heap.size #[.int .i64 k, .int .i64 th, .int .i64 (j - 1), .int .i64 p, .int .i64 n, .int .u64 m] 220 := Blk.new w.drew _ _
  refine hK.out _ (w.drew.alloc (.cells #[.int .i64 k, .int .i64 th, .int .i64 (j - 1), .int .i64 p, .int .i64 n, .int .u64 m] 220)) ⟨hHeld.1.alloc _, hHeld.2.alloc _⟩ (fun hHeld => ?_)
  clear hK
  try simp only [Act.put, List.getElem_toArray, List.getElem_cons_succ, List.getElem_cons_zero, List.setIfInBounds_toArray, List.set_cons_zero, List.set_cons_succ]
  generalize w.drew.alloc (.cells #[.int .i64 k, .int .i64 th, .int .i64 (j - 1), .int .i64 p, .int .i64 n, .int .u64 m] 220) = W1 at hN hHeld ⊢
  refine AnyU.one (i := 20) rfl (by kernel_rfl) (fun K hK => ?_)
  simp only [List.getElem_toArray, List.getElem_cons_succ, List.getElem_cons_zero]
  rw [if_pos (by rfl)]
  refine wp_append_own _ _ _ 93 rfl 0 220 i0 (.agg #[.int .i64 0, .int .i64 0, .int .i64 0, .int .i64 0, .int .i64 0, .int .u64 0]) 6 48 Tryz.underlying93 hi hz0 hz1 hz2 rfl (by decide) (.slice none 0 0) 0 [] rfl (World.ownsRow_nil _ _ _ _) ⟨w.heap.size, 0, none⟩ 1 1 [.int .i64 k, .int .i64 th, .int .i64 (j - 1), .int .i64 p, .int .i64 n, .int .u64 m] rfl rfl (cells_blk hN) (by simp [Value.oneCell']) (by unfold maxLen; omega) (by omega) (Nat.zero_le _) ?_
  intro v' w3 hown hgrow _
  obtain ⟨a3', c3', rfl⟩ := ownsRow_slice hown
  have hO : Adds W1 w3 := adds_grownN hgrow
  refine hK.out _ w3 ⟨hHeld.1.only hO id, hHeld.2.thenF hO⟩ (fun hHeld => ?_)
  clear hK
  try simp only [Act.put, List.getElem_toArray, List.getElem_cons_succ, List.getElem_cons_zero, List.setIfInBounds_toArray, List.set_cons_zero, List.set_cons_succ]
  clear hgrow hN hown
  refine AnyU.one (i := 21) rfl (by kernel_rfl) (fun K hK => ?_)
  simp only [List.getElem_toArray, List.getElem_cons_succ, List.getElem_cons_zero]
  go_simp
  refine hK.out _ _ hHeld (fun hHeld => ?_)
  clear hK
  try simp only [Act.put, List.getElem_toArray, List.getElem_cons_succ, List.getElem_cons_zero, List.setIfInBounds_toArray, List.set_cons_zero, List.set_cons_succ]
  refine AnyU.one (i := 22) rfl (by kernel_rfl) (fun K hK => ?_)
  simp only [List.getElem_toArray, List.getElem_cons_succ, List.getElem_cons_zero]
  go_simp
  refine hK.out _ _ hHeld (fun hHeld => ?_)
  clear hK
  try simp only [Act.put, List.getElem_toArray, List.getElem_cons_succ, List.getElem_cons_zero, List.setIfInBounds_toArray, List.set_cons_zero, List.set_cons_succ]
  have q29 := (hHeld.1.cell 29).trans a29
  have f29 := hHeld.1.frozen 29
  refine AnyU.last rfl (by kernel_rfl) (fun K hK => ?_)
  simp only [List.getElem_toArray, List.getElem_cons_succ, List.getElem_cons_zero]
  go_simp
  refine hK.out _ _ ?_
  clear hK
  refine AnyU.done (by kernel_rfl) ?_ _
  go_wp2_with fail
  go_end0
  have hb3 := hHeld.1.setCell 29 (.slice a3' (0 + 1) c3')
  have ho3 : Only (· = mb) w (w3.setCell ⟨mb, 29, none⟩ (.slice a3' (0 + 1) c3')) := (hHeld.2.mono (T := (· = mb)) (fun _ _ e => e.elim)).setCell (p := ⟨mb, 29, none⟩) (.inl rfl) _
  refine ⟨rfl, ⟨.slice a3' (0 + 1) c3', H.out.turn ho3 ?_ rfl H.out.ok (fun e => absurd e (by simp [hu]))⟩, ho3⟩
  rw [HR.out] at hb3
  exact hb3
/-- A mark, whatever it is. -/
theorem mMark_any {k p n m : Int} (h : MM w mb bb sb sm rb fb P T s x lg (.slice none 0 0)) :
    Calls Tryz.prog 141 #[.pointer (some ⟨mb, 0, none⟩), .int .i64 k, .int .i64 p, .int .i64 n, .int .u64 m] w fun e w' => e = .returned (.tuple #[]) ∧ ∃ mk, MM w' mb bb sb sm rb fb P T s x lg mk ∧ Only (MT w mb lg sb sm) w w' := by
  cases hu : x.used
  · exact (mMark_off h hu).mono (fun e w1 h1 => ⟨h1.1, _, h1.2 ▸ h, h1.2 ▸ Only.refl _ _⟩)
  · exact (mMark_on h.m hu).mono (fun e w1 h1 => by
      obtain ⟨he, mk, hm, ho⟩ := h1
      exact ⟨he, mk, h.turn ho hm, mt_mb ho⟩)
set_option maxHeartbeats 1000000 in
theorem mWord_any {k p : Int} (h : MM w mb bb sb sm rb fb P T s x lg mk) (hP : x.P = P) (hT : x.T = T) (hk : Lay.pageOk P T k p = true) :
    Calls Tryz.prog 138 #[.pointer (some ⟨mb, 0, none⟩), .int .i64 k, .int .i64 p] w fun e w' => e = .returned (.int .i64 (Lay.pageAt P T k p)) ∧ Adds w w' := by
  have c1 : w.cell? ⟨mb, 1, none⟩ = some (.int .i64 x.P) := h.m.blk.cell 1
  have c2 : w.cell? ⟨mb, 2, none⟩ = some (.int .i64 x.T) := h.m.blk.cell 2
  rw [hP] at c1
  rw [hT] at c2
  have HK := Lib.hid hk
  obtain ⟨z, hz⟩ : ∃ z, z = Lay.pageAt P T k p := ⟨_, rfl⟩
  have HZ := Lib.hid hz
  rw [← hz]
  clear h hk hz
  go_enter Tryz.func138, Tryz.ntmps138
  go_wp2_with (go_at_call 43; refine (r6PageWord_any P T k p _).mono ?_; rintro e w1 ⟨rfl, ho⟩; rw [atOf_yes HK.out, ← HZ.out])
  go_ret
  exact ⟨rfl, ho⟩
end
/-- What is told ahead of the first step. -/
def MS.fresh (x : MS) : MS := { x with at_ := 0, used := false, d0 := 0, d1 := 0, d2 := 0, d3 := 0, got := -1, code := 2, n := 0, gens := 0, freed := 0 }
section
variable {w w' : World} {mb bb sb sm rb fb : Nat} {P T : Int} {s s' : StoreS} {x y : MS} {lg lg' mk mem : Value}
theorem set_got (h : Blk w mb (x.arr lg mk mem) 95) (v : Int) : Blk (w.setCell ⟨mb, 23, none⟩ (.int .i64 v)) mb (({ x with got := v } : MS).arr lg mk mem) 95 := h.setCell 23 _
theorem set_code (h : Blk w mb (x.arr lg mk mem) 95) (v : Int) : Blk (w.setCell ⟨mb, 24, none⟩ (.int .i64 v)) mb (({ x with code := v } : MS).arr lg mk mem) 95 := h.setCell 24 _
theorem set_n (h : Blk w mb (x.arr lg mk mem) 95) (v : Int) : Blk (w.setCell ⟨mb, 25, none⟩ (.int .i64 v)) mb (({ x with n := v } : MS).arr lg mk mem) 95 := h.setCell 25 _
theorem set_gens (h : Blk w mb (x.arr lg mk mem) 95) (v : Int) : Blk (w.setCell ⟨mb, 26, none⟩ (.int .i64 v)) mb (({ x with gens := v } : MS).arr lg mk mem) 95 := h.setCell 26 _
theorem set_freed (h : Blk w mb (x.arr lg mk mem) 95) (v : Int) : Blk (w.setCell ⟨mb, 27, none⟩ (.int .u64 v)) mb (({ x with freed := v } : MS).arr lg mk mem) 95 := h.setCell 27 _
theorem set_done (h : Blk w mb (x.arr lg mk mem) 95) (v : Bool) : Blk (w.setCell ⟨mb, 15, none⟩ (.bool v)) mb (({ x with done := v } : MS).arr lg mk mem) 95 := h.setCell 15 _
theorem set_live (h : Blk w mb (x.arr lg mk mem) 95) : Blk (w.setCell ⟨mb, 28, none⟩ (.slice none 0 0)) mb (x.arr lg mk mem) 95 := h.setCell 28 _
theorem set_mk (h : Blk w mb (x.arr lg mk mem) 95) (v : Value) : Blk (w.setCell ⟨mb, 29, none⟩ v) mb (x.arr lg v mem) 95 := h.setCell 29 _
theorem set_mem (h : Blk w mb (x.arr lg mk mem) 95) (v : Value) : Blk (w.setCell ⟨mb, 18, none⟩ v) mb (x.arr lg mk v) 95 := h.setCell 18 _
theorem set_full (h : Blk w mb (x.arr lg mk mem) 95) : Blk (w.setCell ⟨mb, 30, none⟩ (.int .i64 0)) mb (x.arr lg mk mem) 95 := h.setCell 30 _
set_option maxRecDepth 100000 in
set_option maxHeartbeats 1000000 in
theorem mFresh_any (h : IsM w mb x lg mk mem) :
    Calls Tryz.prog 72 #[.pointer (some ⟨mb, 0, none⟩)] w fun e w' => e = .returned (.tuple #[]) ∧ IsM w' mb x.fresh lg (.slice none 0 0) mem ∧ Only (· = mb) w w' := by
  have H := Lib.hid h
  have c16 : w.cell? ⟨mb, 16, none⟩ = some (.int .i64 (x.at_ : Int)) := h.blk.cell 16
  have c17 : w.cell? ⟨mb, 17, none⟩ = some (.bool x.used) := h.blk.cell 17
  have c19 : w.cell? ⟨mb, 19, none⟩ = some (.int .i64 x.d0) := h.blk.cell 19
  have c20 : w.cell? ⟨mb, 20, none⟩ = some (.int .i64 x.d1) := h.blk.cell 20
  have c21 : w.cell? ⟨mb, 21, none⟩ = some (.int .u64 x.d2) := h.blk.cell 21
  have c22 : w.cell? ⟨mb, 22, none⟩ = some (.int .u64 x.d3) := h.blk.cell 22
  have f16 := h.blk.frozen 16; have f17 := h.blk.frozen 17
  have f19 := h.blk.frozen 19; have f20 := h.blk.frozen 20; have f21 := h.blk.frozen 21; have f22 := h.blk.frozen 22
  clear h
  go_enter Tryz.func72, Tryz.ntmps72
  go_upto_region 1 with fail
  obtain ⟨wa, hwa⟩ : ∃ wa, wa = ((((((w.setCell ⟨mb, 16, none⟩ (.int .i64 0)).setCell ⟨mb, 17, none⟩ (.bool false)).setCell ⟨mb, 19, none⟩ (.int .i64 0)).setCell ⟨mb, 20, none⟩ (.int .i64 0)).setCell ⟨mb, 21, none⟩ (.int .u64 0)).setCell ⟨mb, 22, none⟩ (.int .u64 0)) := ⟨_, rfl⟩
  have hOa : Only (· = mb) w wa := by rw [hwa]; exact ((((((Only.refl (fun j => j = mb) w).setCell (.inl rfl) _).setCell (.inl rfl) _).setCell (.inl rfl) _).setCell (.inl rfl) _).setCell (.inl rfl) _).setCell (.inl rfl) _
  have hBa : Blk wa mb (({ x with at_ := 0, used := false, d0 := 0, d1 := 0, d2 := 0, d3 := 0 } : MS).arr lg mk mem) 95 := by
    rw [hwa]; exact (((((H.out.blk.setCell 16 _).setCell 17 _).setCell 19 _).setCell 20 _).setCell 21 _).setCell 22 _
  rw [← hwa]
  have HA := Lib.hid hOa
  have c23 : wa.cell? ⟨mb, 23, none⟩ = some (.int .i64 x.got) := hBa.cell 23
  have c24 : wa.cell? ⟨mb, 24, none⟩ = some (.int .i64 x.code) := hBa.cell 24
  have c25 : wa.cell? ⟨mb, 25, none⟩ = some (.int .i64 x.n) := hBa.cell 25
  have c26 : wa.cell? ⟨mb, 26, none⟩ = some (.int .i64 x.gens) := hBa.cell 26
  have c27 : wa.cell? ⟨mb, 27, none⟩ = some (.int .u64 x.freed) := hBa.cell 27
  have c28 : wa.cell? ⟨mb, 28, none⟩ = some (.slice none 0 0) := hBa.cell 28
  have c29 : wa.cell? ⟨mb, 29, none⟩ = some mk := hBa.cell 29
  have c30 : wa.cell? ⟨mb, 30, none⟩ = some (.int .i64 0) := hBa.cell 30
  have g23 := hBa.frozen 23; have g24 := hBa.frozen 24; have g25 := hBa.frozen 25; have g26 := hBa.frozen 26; have g27 := hBa.frozen 27; have g28 := hBa.frozen 28; have g29 := hBa.frozen 29; have g30 := hBa.frozen 30
  have HB := Lib.hid hBa
  clear hwa hOa hBa c16 c17 c19 c20 c21 c22 f16 f17 f19 f20 f21 f22
  go_wp2_with fail
  go_end0
  have hO : Only (· = mb) w ((((((((wa.setCell ⟨mb, 23, none⟩ (.int .i64 (-1))).setCell ⟨mb, 25, none⟩ (.int .i64 0)).setCell ⟨mb, 26, none⟩ (.int .i64 0)).setCell ⟨mb, 27, none⟩ (.int .u64 0)).setCell ⟨mb, 28, none⟩ (.slice none 0 0)).setCell ⟨mb, 29, none⟩ (.slice none 0 0)).setCell ⟨mb, 30, none⟩ (.int .i64 0)).setCell ⟨mb, 24, none⟩ (.int .i64 2)) :=
    (((((((HA.out.setCell (.inl rfl) _).setCell (.inl rfl) _).setCell (.inl rfl) _).setCell (.inl rfl) _).setCell (.inl rfl) _).setCell (.inl rfl) _).setCell (.inl rfl) _).setCell (.inl rfl) _
  have b1 := set_code (set_full (set_mk (set_live (set_freed (set_gens (set_n (set_got HB.out (-1)) 0) 0) 0)) (.slice none 0 0))) 2
  exact ⟨rfl, H.out.turn hO b1 rfl ⟨Nat.zero_le _, fun e => by cases e⟩ (fun _ => rfl), hO⟩
/-- What is told of a machine that is not done. -/
def MS.idle (x : MS) : MS := { x with got := -1, code := 2 }
set_option maxRecDepth 100000 in
set_option maxHeartbeats 2000000 in
theorem mIdle_any (h : IsM w mb x lg mk mem) :
    Calls Tryz.prog 126 #[.pointer (some ⟨mb, 0, none⟩)] w fun e w' => e = .returned (.tuple #[]) ∧ IsM w' mb x.idle lg mk mem ∧ Only (· = mb) w w' := by
  have H := Lib.hid h
  have c23 : w.cell? ⟨mb, 23, none⟩ = some (.int .i64 x.got) := h.blk.cell 23
  have c24 : w.cell? ⟨mb, 24, none⟩ = some (.int .i64 x.code) := h.blk.cell 24
  have c28 : w.cell? ⟨mb, 28, none⟩ = some (.slice none 0 0) := h.blk.cell 28
  have f23 := h.blk.frozen 23; have f24 := h.blk.frozen 24; have f28 := h.blk.frozen 28
  clear h
  go_enter Tryz.func126, Tryz.ntmps126
  go_wp2_with fail
  go_end0
  have hO : Only (· = mb) w (((w.setCell ⟨mb, 23, none⟩ (.int .i64 (-1))).setCell ⟨mb, 24, none⟩ (.int .i64 2)).setCell ⟨mb, 28, none⟩ (.slice none 0 0)) := (((Only.refl (fun j => j = mb) w).setCell (.inl rfl) _).setCell (.inl rfl) _).setCell (.inl rfl) _
  exact ⟨rfl, H.out.turn hO (set_live (set_code (set_got H.out.blk (-1)) 2)) rfl ⟨H.out.ok.le, H.out.ok.end_⟩ H.out.mkn, hO⟩
set_option maxRecDepth 100000 in
set_option maxHeartbeats 2000000 in
/-- A machine that has not begun. -/
theorem mNew_any {c : Array Value} (hc : c = x.arr (.slice none 0 0) (.slice none 0 0) (.pointer none)) (hl : x.log = []) (hok : x.Ok) (w : World) :
    Calls Tryz.prog 51 #[.agg c] w fun e w' => ∃ mb, e = .returned (.pointer (some ⟨mb, 0, none⟩)) ∧ IsM w' mb x.fresh (.slice none 0 0) (.slice none 0 0) (.pointer none) ∧ Adds w w' ∧ w.heap.size ≤ mb := by
  have hs : c.size = 32 := by rw [hc]; rfl
  have hs1 : ¬ c.size = 1 := by omega
  have HC := Lib.hid hc
  clear hc
  go_enter Tryz.func51, Tryz.ntmps51
  go_upto_region 1 with fail
  have HB : Hid (IsM (w.alloc (.cells c 95)) w.heap.size x (.slice none 0 0) (.slice none 0 0) (.pointer none)) := Lib.hid ⟨by rw [← HC.out]; exact Blk.new _ _ _, by rw [hl]; exact World.ownsRow_nil _ _ _ _, fun _ => rfl, hok, by rw [hl]; simp, by rw [hl]; simp, fun _ => rfl⟩
  go_wp2_with (go_at_call 72; refine (mFresh_any HB.out).mono ?_; rintro e w1 ⟨rfl, hm, ho⟩)
  go_ret
  exact ⟨_, rfl, hm, ((Only.refl (fun _ => False) w).alloc _).andThen ho (fun i hi e => by omega), Nat.le_refl _⟩
end
section
variable {w w' : World} {mb bb sb sm rb fb : Nat} {P T : Int} {s s' : StoreS} {x y : MS} {lg lg' mk mem : Value}
/-- What a step leaves of a machine. -/
def Steps (w0 w' : World) (mb bb sb sm rb fb : Nat) (P T : Int) (s : StoreS) (x : MS) (lg : Value) : Prop :=
  ∃ lg' mk', MM w' mb bb sb sm rb fb P T s x lg' mk' ∧ Only (MT w0 mb lg sb sm) w0 w' ∧ Lg w0 lg lg'
theorem IsM.mm {mk' : Value} (h : IsM w mb x lg mk mem) (hM : IsMem w bb sb sm rb fb P T s) (hne : lg.ownBlock ≠ some sm) (ho : Only (· = mb) w w') (h' : IsM w' mb y lg mk' (.pointer (some ⟨bb, 0, none⟩))) : MM w' mb bb sb sm rb fb P T s y lg mk' := by
  obtain ⟨tl, db, hr⟩ := hM.ru
  have k : ∀ {b : Nat} {c : Array Value} {t : TypeId}, Blk w b c t → t ≠ 95 → ¬ b = mb := fun hb h1 e => by
    subst e; exact h1 (hb.uniq h.blk).2
  exact ⟨h', hM.only ho (k hM.head (by decide)) (k hM.st.head (by decide)) (k hM.st.row (by decide)) (k hr (by decide)) (k hM.fr (by decide)), hne⟩
theorem MM.dids (h : MM w mb bb sb sm rb fb P T s x lg mk) (ho : Only (Dids w) w w') : MM w' mb bb sb sm rb fb P T s x lg mk := by
  have k : ∀ {b : Nat} {c : Array Value} {t : TypeId}, Blk w b c t → t ≠ 50 → ¬ Dids w b := fun hb h1 ⟨_, hd⟩ => h1 (hb.uniq hd).2
  obtain ⟨tl, db, hr⟩ := h.mem.ru
  exact ⟨h.m.only ho (k h.m.blk (by decide)) (fun g hg => by obtain ⟨c, hc⟩ := ownsRow_blk h.m.row hg; exact k hc (by decide)), h.mem.only ho (k h.mem.head (by decide)) (k h.mem.st.head (by decide)) (k h.mem.st.row (by decide)) (k hr (by decide)) (k h.mem.fr (by decide)), h.ne⟩
theorem res_kept {w3 w4 : World} {r : Nat} {c : Array Value} {t : TypeId} (h : Blk w3 r c t) (ho : Only (MT w3 mb lg sb sm) w3 w4) (h1 : r ≠ sb) (h2 : r ≠ sm) (h3 : r ≠ mb) (h4 : lg.ownBlock ≠ some r) : Blk w4 r c t :=
  h.only ho (fun e => by
    rcases e with (e | e) | e | e
    · exact h1 e
    · exact h2 e
    · exact h3 e
    · exact h4 e.1)
set_option maxRecDepth 100000 in
set_option maxHeartbeats 1000000 in
theorem mStep_any {x1 : MS} {s1 : StoreS} {d : Bool} (h : IsM w mb x lg mk mem) (hM : IsMem w bb sb sm rb fb P T s) (hne : lg.ownBlock ≠ some sm) (hd : x.done = false) (hP : x.P = P) (hT : x.T = T)
    (hB : ∀ w1, MM w1 mb bb sb sm rb fb P T s x.fresh lg (.slice none 0 0) → Calls Tryz.prog 93 #[.pointer (some ⟨mb, 0, none⟩)] w1 fun e w' => e = .returned (.bool d) ∧ Steps w1 w' mb bb sb sm rb fb P T s1 x1 lg) :
    Calls Tryz.prog 64 #[.pointer (some ⟨mb, 0, none⟩), .pointer (some ⟨bb, 0, none⟩)] w fun e w' => e = .returned (.agg #[.int .i64 x1.d0, .int .i64 x1.d1, .int .u64 x1.d2, .int .u64 x1.d3]) ∧ Steps w w' mb bb sb sm rb fb P T s1 { x1 with done := d } lg := by
  have hrs1 : w.heap.size ≠ sb := by have := hM.st.head.lt; omega
  have hrs2 : w.heap.size ≠ sm := by have := hM.st.row.lt; omega
  have hb := fun W => layout_neq W P T P T
  simp only [beq_self_eq_true, Bool.and_self, Bool.not_true] at hb
  obtain ⟨wR, hR⟩ : ∃ wR, wR = w.alloc (.cells #[.int .i64 0, .int .i64 0, .int .u64 0, .int .u64 0] 50) := ⟨_, rfl⟩
  have hAR : Adds w wR := by rw [hR]; exact (Only.refl _ _).alloc _
  have hBR : Blk wR w.heap.size #[.int .i64 0, .int .i64 0, .int .u64 0, .int .u64 0] 50 := by rw [hR]; exact Blk.new _ _ _
  have h1 := h.adds hAR
  have hM1 := hM.adds hAR
  have c15 : wR.cell? ⟨mb, 15, none⟩ = some (.bool x.done) := h1.blk.cell 15
  have c1 : wR.cell? ⟨mb, 1, none⟩ = some (.int .i64 x.P) := h1.blk.cell 1
  have c2 : wR.cell? ⟨mb, 2, none⟩ = some (.int .i64 x.T) := h1.blk.cell 2
  rw [hd] at c15
  rw [hP] at c1
  rw [hT] at c2
  have b2 : wR.cell? ⟨bb, 2, none⟩ = some (.int .i64 P) := hM1.head.cell 2
  have b3 : wR.cell? ⟨bb, 3, none⟩ = some (.int .i64 T) := hM1.head.cell 3
  have H1 := Lib.hid h1; have HM1 := Lib.hid hM1; have HA := Lib.hid hAR; have HR := Lib.hid hR; have HBR := Lib.hid hBR; have HB := Lib.hid hB; have H := Lib.hid h
  clear h hM h1 hM1 hAR hR hBR hB hd hP hT
  go_enter Tryz.func64, Tryz.ntmps64
  go_upto_region 1 with fail
  rw [← HR.out]
  go_quiet (fail)
  have HL := Lib.hid (fun g (hg : lg.ownBlock = some g) => H.out.lt g hg)
  have hrm : w.heap.size ≠ mb := by have := H.out.blk.lt; omega
  have hrl : lg.ownBlock ≠ some w.heap.size := fun e => by have := HL.out _ e; omega
  go_wp2_with (first
    | (go_at_call 72; refine (mFresh_any (H1.out.adds ((Only.refl (fun _ => False) wR).drewN _))).mono ?_; rintro e w2 ⟨rfl, hm2, ho2⟩; have c18 : w2.cell? ⟨mb, 18, none⟩ = some mem := hm2.blk.cell 18; have f18 := hm2.blk.frozen 18; have hO3 := ho2.setCell (p := ⟨mb, 18, none⟩) (.inl rfl) (.pointer (some ⟨bb, 0, none⟩)); have HM3 := Lib.hid (IsM.mm (H1.out.adds ((Only.refl (fun _ => False) wR).drewN _)) (HM1.out.adds ((Only.refl (fun _ => False) wR).drewN _)) hne hO3 (hm2.turn ((Only.refl (fun j => j = mb) w2).setCell (.inl rfl) (.pointer (some ⟨bb, 0, none⟩))) (set_mem hm2.blk (.pointer (some ⟨bb, 0, none⟩))) rfl hm2.ok hm2.mkn)); have HO3 := Lib.hid hO3; clear hm2 ho2 hO3)
    | (go_at_call 93; refine (HB.out _ HM3.out).mono ?_; rintro e w4 ⟨rfl, lg4, mk4, hM4, ho4, hl4⟩; have c15' : w4.cell? ⟨mb, 15, none⟩ = some (.bool x1.done) := hM4.m.blk.cell 15; have f15 := hM4.m.blk.frozen 15; have c19 : w4.cell? ⟨mb, 19, none⟩ = some (.int .i64 x1.d0) := hM4.m.blk.cell 19; have c20 : w4.cell? ⟨mb, 20, none⟩ = some (.int .i64 x1.d1) := hM4.m.blk.cell 20; have c21 : w4.cell? ⟨mb, 21, none⟩ = some (.int .u64 x1.d2) := hM4.m.blk.cell 21; have c22 : w4.cell? ⟨mb, 22, none⟩ = some (.int .u64 x1.d3) := hM4.m.blk.cell 22; have hBr := res_kept ((HBR.out.drewN _).only HO3.out hrm) ho4 hrs1 hrs2 hrm hrl; obtain ⟨q0, q1, q2, q3, g0, g1, g2, g3⟩ := hBr.four; have HBr := Lib.hid hBr; have HM4 := Lib.hid hM4; have HO4 := Lib.hid ho4; have HL4 := Lib.hid hl4; clear hM4 ho4 hl4 hBr))
  refine bodyPost_ret (v := .agg #[.int .i64 x1.d0, .int .i64 x1.d1, .int .u64 x1.d2, .int .u64 x1.d3]) (by simp [q0, q1, q2, q3, results, Tryz.results64, go_sem]) rfl ⟨rfl, lg4, mk4, ?_, ?_, ?_⟩
  · have hm5 : MM (w4.setCell ⟨mb, 15, none⟩ (.bool d)) mb bb sb sm rb fb P T s1 { x1 with done := d } lg4 mk4 := HM4.out.turn ((Only.refl (fun j => j = mb) w4).setCell (.inl rfl) _) (HM4.out.m.turn ((Only.refl (fun j => j = mb) w4).setCell (.inl rfl) _) (set_done HM4.out.m.blk d) rfl ⟨HM4.out.m.ok.le, HM4.out.m.ok.end_⟩ HM4.out.m.mkn)
    refine hm5.dids (only_box4 (Only.refl _ _) (.inl ⟨_, HBr.out.setCell_other hrm 15 (.bool d)⟩) _ _ _ _)
  · have o1 : Only (MT w mb lg sb sm) w (w2.setCell ⟨mb, 18, none⟩ (.pointer (some ⟨bb, 0, none⟩))) := mt_mb (((HA.out.drewN _).mono (T := (· = mb)) (fun _ _ e => e.elim)).trans HO3.out)
    have o2 := MT.trans o1 (Lg.refl _ _) HO4.out
    exact only_box4 (o2.setCell (p := ⟨mb, 15, none⟩) (.inl (.inr (.inl rfl))) _) (.inr (Nat.le_refl _)) _ _ _ _
  · exact Lg.trans (Lg.refl _ _) HL4.out (((HA.out.drewN _).mono (T := (· = mb)) (fun _ _ e => e.elim)).trans HO3.out).size
end
/-- What no access turns. -/
def MS.stat (x y : MS) : Prop := y = { x with log := y.log, at_ := y.at_, used := y.used, d0 := y.d0, d1 := y.d1, d2 := y.d2, d3 := y.d3 }
theorem MS.stat.refl (x : MS) : x.stat x := rfl
theorem MS.stat.trans {x y z : MS} (h : x.stat y) (k : y.stat z) : x.stat z := by
  unfold MS.stat at h k ⊢
  rw [k, h]
theorem MS.stat.P {x y : MS} (h : x.stat y) : y.P = x.P := by rw [h]
theorem MS.stat.T {x y : MS} (h : x.stat y) : y.T = x.T := by rw [h]
theorem acc_stat (x : MS) (c : Ac) (s : StoreS) : x.stat (x.acc c s).2.1 := by
  unfold MS.acc MS.stat
  rcases x.log[x.at_]? with _ | v
  · by_cases hu : x.used = true
    · dsimp only
      rw [if_pos hu]
    · dsimp only
      rw [if_neg hu]
      rfl
  · rfl
theorem acc_len (x : MS) (c : Ac) (s : StoreS) : (x.acc c s).2.1.log.length ≤ x.log.length + 1 := by
  unfold MS.acc
  rcases x.log[x.at_]? with _ | v
  · by_cases hu : x.used = true <;> simp [hu]
  · simp
theorem acc_ws (x : MS) (c : Ac) (s : StoreS) : (x.acc c s).2.2.ws.length = s.ws.length := by
  unfold MS.acc
  rcases x.log[x.at_]? with _ | v
  · by_cases hu : x.used = true <;> simp [hu, Ac.act_len]
  · simp
/-- What is known behind an access. -/
theorem acc_facts {x x1 : MS} {c : Ac} {s s1 : StoreS} {o : Option Int} (hr : x.acc c s = (o, x1, s1)) : x.stat x1 ∧ x1.log.length ≤ x.log.length + 1 ∧ s1.ws.length = s.ws.length := by
  have h1 := acc_stat x c s; have h2 := acc_len x c s; have h3 := acc_ws x c s
  rw [hr] at h1 h2 h3
  exact ⟨h1, h2, h3⟩
theorem inR_of {s s1 : StoreS} {i : Int} (h : s.inR i) (e : s1.ws.length = s.ws.length) : s1.inR i := ⟨h.1, by rw [e]; exact h.2⟩
end Go.Proofs.YthhnpcniijpfeaaGreat
