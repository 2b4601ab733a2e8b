/- M6: Vb Vc Ve Vf Vg Vh Vi Vj Vk Vl Vm Vn Vo Vp (merged by merge.py from the working texts). -/
import Derived.Test.YtamkepeamjphkaaM5
import Derived.Test.YtamkepeamjphkaaM4
set_option linter.unusedSimpArgs false
set_option linter.unnecessarySimpa false
set_option linter.unusedVariables false

/- The vm's data, plainly; contracts of its small functions. -/
set_option linter.unusedVariables false
namespace Uw.Try
open Go Uw Go.Proofs

abbrev I (n : Int) : Dat := .int .i64 n
def ints (l : List Int) : Dat := .slice 1 (l.map fun n => [I n]) false
structure Ins where
  op : Int
  a : Int
  b : Int
  c : Int
structure Body where
  args : Int
  locals : Int
  ins : List Ins
structure Code where
  funs : List Body
  cells : List Int
  maps : Int
  stacks : Int
  chans : Int
  main : Int
structure Frame where
  task : Int
  path : List Int
  fn : Int
  pc : Int
  loc : List Int
  stack : List Int
  kids : List (Int × Int)
  many : Int
  spent : Int
  fail : Bool
structure Ask where
  kind : Int
  a : Int
  b : Int
  op : Int × Int × Int × Int
  args : List Int

def insD (i : Ins) : List Dat := [I i.op, I i.a, I i.b, I i.c]
def bodyD (b : Body) : List Dat := [I b.args, I b.locals, .slice 4 (b.ins.map insD) false]
def codeD (c : Code) : Dat := .agg [.slice 3 (c.funs.map bodyD) false, ints c.cells, I c.maps, I c.stacks, I c.chans, I c.main]
def kidD (k : Int × Int) : List Dat := [I k.1, I k.2]
def frameD (f : Frame) : Dat := .agg [I f.task, ints f.path, I f.fn, I f.pc, ints f.loc, ints f.stack, .slice 2 (f.kids.map kidD) false, I f.many, I f.spent, .bool f.fail]

theorem s25 (n b : Int) : Ret Try.prog 25 [I n, I b] (.bool (decide (0 ≤ n) && decide (n < b))) := by
  refine Ret_by is25 rfl ?_
  refine WT_test (fun h => ?_) (fun h => ?_)
  · refine WT_t rfl ?_
    refine WT_ret rfl rfl rfl rfl ?_
    simp at h; simp [h, packD]
  · refine WT_f rfl ?_
    refine WT_ret rfl rfl rfl rfl ?_
    simp at h; simp [packD]; omega

def isVal (n : Int) : Bool := decide (0 ≤ n) && decide (n < 4294967296)
def below (n b : Int) : Bool := decide (0 ≤ n) && decide (n < b)
def dest (n l : Int) : Bool := decide (n = -1) || below n l

theorem s38 (n : Int) : Ret Try.prog 38 [I n] (.bool (isVal n)) := by
  refine Ret_by is38 rfl ?_
  refine WT_call _ (s25 _ _) ?_
  exact WT_ret rfl rfl rfl rfl rfl

theorem s37 (n b : Int) : Ret Try.prog 37 [I n, I b] (.bool (dest n b)) := by
  refine Ret_by is37 rfl ?_
  refine WT_test (fun h => ?_) (fun h => ?_)
  · simp at h
    refine WT_call _ (s25 _ _) ?_
    refine WT_f rfl ?_
    exact WT_ret rfl rfl rfl rfl (by simp [packD, dest, below, h])
  · simp at h
    refine WT_t rfl ?_
    exact WT_ret rfl rfl rfl rfl (by simp [packD, dest, h])

theorem all_take {α : Type} (p : α → Bool) (l : List α) (k : Nat) (h : k < l.length) : (l.take (k + 1)).all p = ((l.take k).all p && p l[k]) := by
  rw [List.take_succ_eq_append_getElem h, List.all_append]; simp

theorem s26 (l : List Int) (hl : l.length < 1000000) : Ret Try.prog 26 [ints l] (.bool (l.all isVal)) := by
  refine Ret_by is26 rfl ?_
  refine WT_loop (fun k : Int => ⟨[(5, .d (ints l)), (6, .d (.int .i64 (l.map fun n => [Dat.int .i64 n]).length)), (7, .d (.int .i64 k))], [], 0, [], 0⟩)
    (fun k => 0 ≤ k ∧ k ≤ l.length ∧ (l.take k.toNat).all isVal = true) (fun k => (l.length - k).toNat) 0 ?_ ⟨by omega, by omega, by simp⟩ ?_
  · exact Weak.of ⟨⟨_, rfl, .inl ⟨rfl, rfl⟩⟩, ⟨_, rfl, .inl ⟨rfl, rfl⟩⟩, ⟨_, rfl, .inl ⟨rfl, rfl⟩⟩, trivial⟩ trivial rfl rfl trivial rfl rfl
  · rintro k ⟨h0, h1, hall⟩
    refine WT_test (fun h => ?_) (fun h => ?_)
    · simp at h
      refine WT_t (by simp; omega) ?_
      refine WT_elem [.int .i64 l[k.toNat]] (by simp) ?_
      refine WT_call _ (s38 _) ?_
      refine WT_test (fun h2 => ?_) (fun h2 => ?_)
      · refine WT_leave ?_
        refine WT_ret rfl rfl rfl rfl ?_
        simp at h2
        simp only [packD]
        congr 1
        symm
        rw [List.all_eq_false]
        exact ⟨l[k.toNat], List.getElem_mem _, by simp [h2]⟩
      · refine WT_t (by simp [inR]; omega) ?_
        refine WT_again (k + 1) ⟨by omega, by omega, ?_⟩ (by omega) (Weak.of ⟨⟨_, rfl, .inl ⟨rfl, rfl⟩⟩, ⟨_, rfl, .inl ⟨rfl, rfl⟩⟩, ⟨_, rfl, .inl ⟨rfl, rfl⟩⟩, trivial⟩ trivial rfl rfl trivial rfl rfl)
        rw [show (k + 1).toNat = k.toNat + 1 by omega, all_take isVal l k.toNat (by omega), hall]
        simpa using h2
    · refine WT_break ?_
      simp at h
      refine WT_ret rfl rfl rfl rfl ?_
      rw [List.take_of_length_le (by omega)] at hall
      rw [hall]; rfl

def okKid (b : Int) (k : Int × Int) : Bool := decide (1 ≤ k.1) && dest k.2 b

def bodyAt (c : Code) (f : Frame) : Body := c.funs.getD f.fn.toNat ⟨0, 0, []⟩

def right (c : Code) (f : Frame) : Bool :=
  !(decide (f.task < 1) || !below f.fn c.funs.length) &&
  !(!below f.pc ((bodyAt c f).ins.length + 1) || !decide ((f.loc.length : Int) = (bodyAt c f).locals) || decide (100 < (f.stack.length : Int))) &&
  f.kids.all (okKid (bodyAt c f).locals) && f.loc.all isVal && f.stack.all isVal && decide (0 ≤ f.many) && below f.spent 2001

structure Tiny (c : Code) (f : Frame) : Prop where
  funs : c.funs.length < 1000
  cells : c.cells.length < 1000
  ins : ∀ b ∈ c.funs, b.ins.length < 1000
  path : f.path.length < 1000
  loc : f.loc.length < 1000
  stack : f.stack.length < 1000
  kids : f.kids.length < 1000


theorem getElem?_map_some {α β : Type} (g : α → β) (l : List α) (k : Nat) (h : k < l.length) : (l.map g)[k]? = some (g l[k]) := by simp [h]

end Uw.Try

/- Copies of rows and frames. -/
set_option linter.unusedVariables false
namespace Uw.Try
open Go Uw Go.Proofs

def rows (l : List Int) : List (List Dat) := l.map fun n => [I n]
def krows (l : List (Int × Int)) : List (List Dat) := l.map kidD

theorem clone27 (l : List Int) (hl : l.length < 1000) (h : Heap) (nx : Nat) : SatC Try.prog 27 [.d (ints l)] h nx (fun r h' nx' => r = .val (.ref nx 0 0 l.length) ∧ h' = (nx, .mt 1 0 (rows l)) :: h ∧ nx' = nx + 1) := by
  refine SatC.nilRow (Q0 := fun r h' nx' => (r = .val (.d .nil) ∧ l = [] ∧ h' = h ∧ nx' = nx) ∨ (r = .val (.ref nx 0 0 l.length) ∧ h' = (nx, .mt 1 0 (rows l)) :: h ∧ nx' = nx + 1)) ?_ true 1 ?_
  · have copy : WT Try.prog (InlQ m27.res fun r h' nx' => (r = .val (.d .nil) ∧ l = [] ∧ h' = h ∧ nx' = nx) ∨ (r = .val (.ref nx 0 0 l.length) ∧ h' = (nx, .mt 1 0 (rows l)) :: h ∧ nx' = nx + 1)) (exec m27.code ⟨initRegs 0 [.d (ints l)], h, nx, [], nx⟩ Tree.done) := by
      refine WT_test (fun h1 => ?_) (fun h1 => ?_)
      · have h1 : l = [] := by simpa using h1
        refine WT_both ?_ ?_
        · refine WT_t rfl ?_
          exact WT_iret rfl rfl (.inl ⟨rfl, h1, rfl, rfl⟩)
        · refine WT_f rfl ?_
          refine WT_t rfl ?_
          refine WT_t (by simp; omega) ?_
          exact WT_iret rfl rfl (.inr ⟨congrArg (fun z => Res.val (V.ref nx 0 0 z)) (List.length_map ..), rfl, rfl⟩)
      · refine WT_f rfl ?_
        refine WT_t rfl ?_
        refine WT_t (by simp; omega) ?_
        exact WT_iret rfl rfl (.inr ⟨congrArg (fun z => Res.val (V.ref nx 0 0 z)) (List.length_map ..), rfl, rfl⟩)
    exact SatC_by is27 rfl copy
  · rintro r h' nx' (⟨rfl, rfl, rfl, rfl⟩ | hq)
    · exact .inr ⟨rfl, rfl, rfl, rfl⟩
    · exact .inl hq

theorem clone40 (l : List (Int × Int)) (hl : l.length < 1000) (h : Heap) (nx : Nat) : SatC Try.prog 40 [.d (.slice 2 (l.map kidD) false)] h nx (fun r h' nx' => r = .val (.ref nx 0 0 l.length) ∧ h' = (nx, .mt 2 0 (krows l)) :: h ∧ nx' = nx + 1) := by
  refine SatC.nilRow (Q0 := fun r h' nx' => (r = .val (.d .nil) ∧ l = [] ∧ h' = h ∧ nx' = nx) ∨ (r = .val (.ref nx 0 0 l.length) ∧ h' = (nx, .mt 2 0 (krows l)) :: h ∧ nx' = nx + 1)) ?_ true 2 ?_
  · have copy : WT Try.prog (InlQ m40.res fun r h' nx' => (r = .val (.d .nil) ∧ l = [] ∧ h' = h ∧ nx' = nx) ∨ (r = .val (.ref nx 0 0 l.length) ∧ h' = (nx, .mt 2 0 (krows l)) :: h ∧ nx' = nx + 1)) (exec m40.code ⟨initRegs 0 [.d (.slice 2 (l.map kidD) false)], h, nx, [], nx⟩ Tree.done) := by
      refine WT_test (fun h1 => ?_) (fun h1 => ?_)
      · have h1 : l = [] := by simpa using h1
        refine WT_both ?_ ?_
        · refine WT_t rfl ?_
          exact WT_iret rfl rfl (.inl ⟨rfl, h1, rfl, rfl⟩)
        · refine WT_f rfl ?_
          refine WT_t rfl ?_
          refine WT_t (by simp; omega) ?_
          exact WT_iret rfl rfl (.inr ⟨congrArg (fun z => Res.val (V.ref nx 0 0 z)) (List.length_map ..), rfl, rfl⟩)
      · refine WT_f rfl ?_
        refine WT_t rfl ?_
        refine WT_t (by simp; omega) ?_
        exact WT_iret rfl rfl (.inr ⟨congrArg (fun z => Res.val (V.ref nx 0 0 z)) (List.length_map ..), rfl, rfl⟩)
    exact SatC_by is40 rfl copy
  · rintro r h' nx' (⟨rfl, rfl, rfl, rfl⟩ | hq)
    · exact .inr ⟨rfl, rfl, rfl, rfl⟩
    · exact .inl hq

/-- A frame whose rows are the call's own: they begin at the block i. -/
def ownFrame (f : Frame) (i : Nat) : List V := [.d (I f.task), .ref i 0 0 f.path.length, .d (I f.fn), .d (I f.pc), .ref (i + 1) 0 0 f.loc.length, .ref (i + 2) 0 0 f.stack.length, .ref (i + 3) 0 0 f.kids.length, .d (I f.many), .d (I f.spent), .d (.bool f.fail)]
def frameV (f : Frame) : V := V.ofDat (frameD f)

end Uw.Try

/- The steps of the vm, one by one. -/
set_option linter.unusedVariables false
namespace Uw.Try
open Go Uw Go.Proofs

def noAsk : List V := [.d (I 0), .d (I 0), .d (I 0), .d (I 0), .d (I 0), .d (I 0), .d (I 0), .d .nil]
def zFrame : List V := [.d (I 0), .d .nil, .d (I 0), .d (I 0), .d .nil, .d .nil, .d .nil, .d (I 0), .d (I 0), .d (.bool false)]

/-- A machine: its frame; the stack's block, how much of it is the stack, its version; the locals' block; what it asks. -/
structure LX where
  f : Frame
  xs : List (List Dat)
  n : Nat
  ver : Nat
  ls : List (List Dat)

def frV (x : LX) : List V := [.d (I x.f.task), .ref 6 0 0 x.f.path.length, .d (I x.f.fn), .d (I x.f.pc), .ref 7 0 0 x.f.loc.length, .ref 8 x.ver 0 x.n, .ref 9 0 0 x.f.kids.length, .d (I x.f.many), .d (I x.f.spent), .d (.bool x.f.fail)]
def cV (c : Code) : List V := (V.ofDat (codeD c)).cells
def bV (b : Body) : List V := (bodyD b).map V.d
def insV (i : Ins) : List V := (insD i).map V.d
def table : List V := [.d .nilFunc, .d (.func 41), .d (.func 42), .d (.func 43), .d (.func 44), .d (.func 45), .func 66 [] [.ptr 11 0], .func 66 [] [.ptr 12 0], .func 66 [] [.ptr 13 0], .func 66 [] [.ptr 14 0], .func 66 [] [.ptr 15 0],
  .d (.func 53), .d (.func 54), .d (.func 55), .d (.func 56), .d (.func 57), .d (.func 58), .d (.func 59), .d (.func 60), .func 66 [] [.ptr 16 0]]

def loopHeap (c : Code) (b : Body) (f0 : Frame) (x : LX) (ask : List V) : Heap :=
  [(5, .var (cV c ++ bV b ++ frV x ++ ask)), (6, .mt 1 0 (rows x.f.path)), (7, .mt 1 0 x.ls), (8, .mt 1 x.ver x.xs), (9, .mt 2 0 (krows x.f.kids)),
   (11, .var [.d (.func 47)]), (12, .var [.d (.func 48)]), (13, .var [.d (.func 49)]), (14, .var [.d (.func 50)]), (15, .var [.d (.func 52)]), (16, .var [.d (.func 61)]), (17, .var table),
   (0, .var (cV c)), (1, .var (V.ofDat (frameD f0)).cells), (2, .var zFrame), (3, .var noAsk), (4, .var [.d (I 0)])]

def LH (c : Code) (b : Body) (f0 : Frame) (x : LX) (ask : List V) (i : Ins) : Heap := (18, .var (insV i)) :: loopHeap c b f0 x ask

structure Inv (c : Code) (b : Body) (x : LX) : Prop where
  pre : x.xs.take x.n = rows x.f.stack
  len : x.n = x.f.stack.length
  le : x.n ≤ x.xs.length
  loc : x.ls = rows x.f.loc
  deep : x.f.stack.length ≤ 100
  pc0 : 0 ≤ x.f.pc
  pc1 : x.f.pc < 1000
  sp0 : 0 ≤ x.f.spent
  sp1 : x.f.spent < 2000
  locs : x.f.loc.length < 1000
  kids : x.f.kids.length < 1000
  ins : b.ins.length < 1000
  funs : c.funs.length < 1000
  cells : c.cells.length < 1000

def errArg : Dat := .iface 34 (I 1)

/-- What a step comes to: the machine behind it, or a panic. -/
def Post (c : Code) (b : Body) (f0 : Frame) (i : Ins) (R : LX → List V → Prop) (bad : Prop) (r : Res) (h' : Heap) (nx' : Nat) : Prop :=
  nx' = 19 ∧ ∃ y ask, h' = LH c b f0 y ask i ∧ ((r = .val (.tuple []) ∧ R y ask) ∨ (r = .pan errArg ∧ bad))

def passed (x : LX) : LX := { x with f := { x.f with pc := x.f.pc + 1, spent := x.f.spent + 1 } }

set_option maxRecDepth 100000 in
set_option maxHeartbeats 1000000 in
theorem i_push (c : Code) (b : Body) (f0 : Frame) (x : LX) (i : Ins) (hx : Inv c b x) :
    SatC Try.prog 41 [.ptr 5 0, .agg (insV i)] (LH c b f0 x noAsk i) 19
      (Post c b f0 i (fun y ask => ask = noAsk ∧ isVal i.a = true ∧ x.n < 100 ∧ y = passed { x with xs := x.xs.take x.n ++ [[I i.a]], n := x.n + 1, ver := x.ver + 1 }) (¬ (isVal i.a = true ∧ x.n < 100))) := by
  have h1 := hx.pc0; have h2 := hx.pc1; have h3 := hx.sp0; have h4 := hx.sp1; have h5 := hx.deep; have h6 := hx.len
  refine SatC_byW is41 rfl ?_
  refine WT_call _ (s38 _) ?_
  refine WT_inl is36 rfl ?_
  cases hv : isVal i.a with
  | false =>
    refine WT_t rfl ?_
    refine WT_ipan rfl ?_
    refine WT_done ⟨⟨[], LH c b f0 x noAsk i, 19, [], 19⟩, .inr ?_, rfl, rfl, x, noAsk, rfl, .inr ⟨rfl, by simp⟩⟩
    exact Weak.eqs [] (by kernel_rfl) (by kernel_rfl) (by kernel_rfl) (by kernel_rfl) (by kernel_rfl) (by kernel_rfl) (by kernel_rfl) (by kernel_rfl) (by kernel_rfl) (by kernel_rfl)
  | true =>
    refine WT_f rfl ?_
    refine WT_iend rfl rfl ?_
    refine WT_inl is62 rfl ?_
    refine WT_v ?_
    refine WT_inl is36 rfl ?_
    by_cases hn : x.n < 100
    · refine WT_f (by simp; omega) ?_
      refine WT_iend rfl rfl ?_
      refine WT_v ?_
      refine WT_t (by simp; omega) ?_
      refine WT_iend rfl rfl ?_
      refine WT_inl is63 rfl ?_
      refine WT_t (by simp [inR]; omega) ?_
      refine WT_inl is70 rfl ?_
      refine WT_t (by simp [inR]; omega) ?_
      refine WT_iend rfl rfl ?_
      refine WT_iend rfl rfl ?_
      refine WT_done ⟨⟨[], LH c b f0 (passed { x with xs := x.xs.take x.n ++ [[I i.a]], n := x.n + 1, ver := x.ver + 1 }) noAsk i, 19, [], 19⟩, .inr ?_, rfl, [], rfl, rfl, _, noAsk, rfl, .inl ⟨rfl, rfl, rfl, hn, rfl⟩⟩
      exact Weak.eqs [] (by kernel_rfl) (by kernel_rfl) (by kernel_rfl) (by kernel_rfl) (by kernel_rfl) (by kernel_rfl) (by kernel_rfl) (by kernel_rfl) (by kernel_rfl) (by kernel_rfl)
    · refine WT_t (by simp; omega) ?_
      refine WT_ipan rfl ?_
      refine WT_ipan rfl ?_
      refine WT_done ⟨⟨[], LH c b f0 x noAsk i, 19, [], 19⟩, .inr ?_, rfl, rfl, x, noAsk, rfl, .inr ⟨rfl, by simp [hn]⟩⟩
      exact Weak.eqs [] (by kernel_rfl) (by kernel_rfl) (by kernel_rfl) (by kernel_rfl) (by kernel_rfl) (by kernel_rfl) (by kernel_rfl) (by kernel_rfl) (by kernel_rfl) (by kernel_rfl)

end Uw.Try

/- Taking from the stack; awaited locals. -/
set_option linter.unusedVariables false
namespace Uw.Try
open Go Uw Go.Proofs

def H19 (c : Code) (b : Body) (f0 : Frame) (x : LX) (ask : List V) (i : Ins) : Heap := (19, .var (insV i)) :: LH c b f0 x ask i

theorem need_ok (p : V) (bb : Bool) (h : Heap) (nx : Nat) : SatC Try.prog 36 [p, .d (.bool bb)] h nx (fun r h' nx' => h' = h ∧ nx' = nx ∧ ((bb = true ∧ r = .val (.tuple [])) ∨ (bb = false ∧ r = .pan errArg))) := by
  refine SatC_by is36 rfl ?_
  cases bb with
  | true =>
    refine WT_f rfl ?_
    exact WT_iend rfl rfl ⟨rfl, rfl, .inl ⟨rfl, rfl⟩⟩
  | false =>
    refine WT_t rfl ?_
    exact WT_ipan rfl ⟨rfl, rfl, .inr ⟨rfl, rfl⟩⟩

/-- The last of the stack. -/
theorem last_row {xs : List (List Dat)} {n : Nat} {s : List Int} (h1 : xs.take n = rows s) (h2 : n = s.length) (h3 : n ≤ xs.length) (h0 : 0 < n) : xs[n - 1]? = some [I (s.getLastD 0)] := by
  have h4 : (xs.take n)[n - 1]? = xs[n - 1]? := by rw [List.getElem?_take, if_pos (by omega)]
  rw [← h4, h1, rows, List.getElem?_map]
  have : s[n - 1]? = some (s.getLastD 0) := by
    subst h2
    rw [← List.getLast?_eq_getElem?, List.getLastD_eq_getLast?]
    cases s with
    | nil => simp at h0
    | cons a r => simp [List.getLast?_cons]
  rw [this]; rfl

set_option maxRecDepth 100000 in
set_option maxHeartbeats 1000000 in
theorem top_ok (c : Code) (b : Body) (f0 : Frame) (x : LX) (i : Ins) (hx : Inv c b x) :
    SatC Try.prog 65 [.ptr 5 0] (H19 c b f0 x noAsk i) 20 (fun r h' nx' => nx' = 20 ∧ ((0 < x.n ∧ r = .val (.d (I (x.f.stack.getLastD 0))) ∧ h' = H19 c b f0 { x with n := ((x.n : Int) - 1 - 0).toNat } noAsk i) ∨ (x.n = 0 ∧ r = .pan errArg ∧ h' = H19 c b f0 x noAsk i))) := by
  have h5 := hx.deep; have h6 := hx.len; have h7 := hx.le
  refine SatC_byW is65 rfl ?_
  refine WT_inl is67 rfl ?_
  refine WT_v ?_
  refine WT_sub (need_ok _ _ _ _) ?_
  rintro _ _ _ ⟨rfl, rfl, ⟨hb, rfl⟩ | ⟨hb, rfl⟩⟩
  · simp at hb
    refine WT_v ?_
    refine WT_t (by simp [inR]; omega) ?_
    refine WT_v ?_
    refine WT_t (by simp; omega) ?_
    refine WT_v ?_
    refine WT_t (by simp; omega) ?_
    refine WT_v ?_
    refine WT_t (by simp; omega) ?_
    refine WT_iret rfl rfl ?_
    refine WT_t rfl ?_
    refine WT_t (by simp; omega) ?_
    refine WT_t rfl ?_
    refine WT_elem [I (x.f.stack.getLastD 0)] (by simp only [List.getElem?_take, List.getElem?_drop]; rw [if_pos (by omega), show 0 + ((x.n : Int) - 1).toNat + (0 + (0 : Int).toNat) = x.n - 1 by omega]; exact last_row hx.pre hx.len hx.le (by omega)) ?_
    refine WT_done ⟨⟨[(2, .d (I (x.f.stack.getLastD 0)))], H19 c b f0 { x with n := ((x.n : Int) - 1 - 0).toNat } noAsk i, 20, [], 20⟩, .inr ?_, rfl, _, rfl, rfl, .inl ⟨by omega, rfl, rfl⟩⟩
    exact Weak.eqs [] (by kernel_rfl) (by kernel_rfl) (by kernel_rfl) (by kernel_rfl) (by kernel_rfl) (by kernel_rfl) (by kernel_rfl) (by kernel_rfl) (by kernel_rfl) (by kernel_rfl)
  · simp at hb
    refine WT_ipan rfl ?_
    refine WT_done ⟨⟨[], H19 c b f0 x noAsk i, 20, [], 20⟩, .inr ?_, rfl, rfl, .inr ⟨by omega, rfl, rfl⟩⟩
    exact Weak.eqs [] (by kernel_rfl) (by kernel_rfl) (by kernel_rfl) (by kernel_rfl) (by kernel_rfl) (by kernel_rfl) (by kernel_rfl) (by kernel_rfl) (by kernel_rfl) (by kernel_rfl)

end Uw.Try

/- Awaited locals; the steps, one by one. -/
set_option linter.unusedVariables false
namespace Uw.Try
open Go Uw Go.Proofs

def qSync : List V := [.d (I 5), .d (I 0), .d (I 0), .d (I 0), .d (I 0), .d (I 0), .d (I 0), .d .nil]

def awaited (f : Frame) (l : Int) : Bool := f.kids.any fun k => decide (k.2 = l)

theorem any_take {α : Type} (p : α → Bool) (l : List α) (k : Nat) (h : k < l.length) : (l.take (k + 1)).any p = ((l.take k).any p || p l[k]) := by
  rw [List.take_succ_eq_append_getElem h, List.any_append]; simp

theorem krow_at {l : List (Int × Int)} {k m : Nat} (h : k < l.length) (hm : m = k := by omega) : (krows l)[m]? = some (kidD l[k]) := by
  subst hm; simp [krows, h]

set_option maxRecDepth 100000 in
set_option maxHeartbeats 1000000 in
theorem wait_ok (c : Code) (b : Body) (f0 : Frame) (x : LX) (i : Ins) (l : Int) (hx : Inv c b x) :
    SatC Try.prog 64 [.ptr 5 0, .d (I l)] (H19 c b f0 x noAsk i) 20 (fun r h' nx' => nx' = 20 ∧
      ((below l x.f.loc.length = false ∧ r = .pan errArg ∧ h' = H19 c b f0 x noAsk i) ∨
       (below l x.f.loc.length = true ∧ awaited x.f l = true ∧ r = .val (.d (.bool true)) ∧ h' = H19 c b f0 x qSync i) ∨
       (below l x.f.loc.length = true ∧ awaited x.f l = false ∧ r = .val (.d (.bool false)) ∧ h' = H19 c b f0 x noAsk i))) := by
  have h5 := hx.locs; have h6 := hx.kids
  refine SatC_byW is64 rfl ?_
  refine WT_v ?_
  refine WT_call _ (s25 _ _) ?_
  refine WT_sub (need_ok _ _ _ _) ?_
  rintro _ _ _ ⟨rfl, rfl, ⟨hb, rfl⟩ | ⟨hb, rfl⟩⟩
  · refine WT_v ?_
    refine WT_loop (fun k : Int => ⟨[(0, .ptr 5 0), (1, .d (I l)), (21, .ref 9 0 0 x.f.kids.length), (22, .d (I x.f.kids.length)), (23, .d (I k))], H19 c b f0 x noAsk i, 20, [], 20⟩)
      (fun k => 0 ≤ k ∧ k ≤ x.f.kids.length ∧ (x.f.kids.take k.toNat).any (fun k => decide (k.2 = l)) = false) (fun k => (x.f.kids.length - k).toNat) 0 ?_ ⟨by omega, by omega, by simp⟩ ?_
    · exact Weak.eqs [] (by kernel_rfl) (by kernel_rfl) (by kernel_rfl) (by kernel_rfl) (by kernel_rfl) (by kernel_rfl) (by kernel_rfl) (by kernel_rfl) (by kernel_rfl) (by kernel_rfl)
    · rintro k ⟨h0, h1, hall⟩
      refine WT_test (fun h => ?_) (fun h => ?_)
      · simp at h
        refine WT_v ?_
        refine WT_t (by simp; omega) ?_
        refine WT_v ?_
        refine WT_elem (kidD x.f.kids[k.toNat]) (krow_at (by omega)) ?_
        refine WT_test (fun h2 => ?_) (fun h2 => ?_)
        · refine WT_leave ?_
          refine WT_done ⟨⟨[(4, .d (.bool true))], H19 c b f0 x qSync i, 20, [], 20⟩, .inr ?_, rfl, _, rfl, rfl, .inr (.inl ⟨hb, ?_, rfl, rfl⟩)⟩
          · exact Weak.eqs [] (by kernel_rfl) (by kernel_rfl) (by kernel_rfl) (by kernel_rfl) (by kernel_rfl) (by kernel_rfl) (by kernel_rfl) (by kernel_rfl) (by kernel_rfl) (by kernel_rfl)
          · simp at h2
            exact List.any_eq_true.2 ⟨x.f.kids[k.toNat], List.getElem_mem _, by simp [h2]⟩
        · refine WT_t (by simp [inR]; omega) ?_
          refine WT_again (k + 1) ⟨by omega, by omega, ?_⟩ (by omega) ?_
          · rw [show (k + 1).toNat = k.toNat + 1 by omega, any_take _ _ k.toNat (by omega), hall]
            simpa [kidD] using h2
          · exact Weak.eqs [] (by kernel_rfl) (by kernel_rfl) (by kernel_rfl) (by kernel_rfl) (by kernel_rfl) (by kernel_rfl) (by kernel_rfl) (by kernel_rfl) (by kernel_rfl) (by kernel_rfl)
      · refine WT_break ?_
        simp at h
        refine WT_done ⟨⟨[(4, .d (.bool false))], H19 c b f0 x noAsk i, 20, [], 20⟩, .inr ?_, rfl, _, rfl, rfl, .inr (.inr ⟨hb, ?_, rfl, rfl⟩)⟩
        · exact Weak.eqs [] (by kernel_rfl) (by kernel_rfl) (by kernel_rfl) (by kernel_rfl) (by kernel_rfl) (by kernel_rfl) (by kernel_rfl) (by kernel_rfl) (by kernel_rfl) (by kernel_rfl)
        · rw [List.take_of_length_le (by omega)] at hall
          exact hall
  · refine WT_done ⟨⟨[], H19 c b f0 x noAsk i, 20, [], 20⟩, .inr ?_, rfl, rfl, .inl ⟨hb, rfl, rfl⟩⟩
    exact Weak.eqs [] (by kernel_rfl) (by kernel_rfl) (by kernel_rfl) (by kernel_rfl) (by kernel_rfl) (by kernel_rfl) (by kernel_rfl) (by kernel_rfl) (by kernel_rfl) (by kernel_rfl)

end Uw.Try

/- Helpers of the machine, at the loop's heaps (printed by printh.py). -/
set_option linter.unusedVariables false
namespace Uw.Try
open Go Uw Go.Proofs

def pushed (x : LX) (v : Int) : LX := { x with xs := x.xs.take x.n ++ [[I v]], n := x.n + 1, ver := x.ver + 1 }
def passTo (x : LX) (to : Int) : LX := { x with f := { x.f with pc := to, spent := x.f.spent + 1 } }
def popped (x : LX) : LX := { x with n := ((x.n : Int) - 1 - 0).toNat }


set_option maxRecDepth 100000 in
set_option maxHeartbeats 1000000 in
theorem putL (c : Code) (b : Body) (f0 : Frame) (x : LX) (i : Ins) (v : Int) (h1 : x.n ≤ x.xs.length) :
    SatC Try.prog 62 [.ptr 5 0, .d (I v)] (LH c b f0 x noAsk i) 19 (fun r h' nx' => nx' = 19 ∧ ((x.n < 100 ∧ r = .val (.tuple []) ∧ h' = LH c b f0 (pushed x v) noAsk i) ∨ (¬ x.n < 100 ∧ r = .pan errArg ∧ h' = LH c b f0 x noAsk i))) := by
  refine SatC_byW is62 rfl ?_
  refine WT_v ?_
  refine WT_sub (need_ok _ _ _ _) ?_
  rintro _ _ _ ⟨rfl, rfl, ⟨hb, rfl⟩ | ⟨hb, rfl⟩⟩
  · simp at hb
    refine WT_v ?_
    refine WT_t (by simp; omega) ?_
    refine WT_done ⟨⟨[], LH c b f0 (pushed x v) noAsk i, 19, [], 19⟩, .inr ?_, rfl, [], rfl, rfl, .inl ⟨by omega, rfl, rfl⟩⟩
    exact Weak.eqs [] (by kernel_rfl) (by kernel_rfl) (by kernel_rfl) (by kernel_rfl) (by kernel_rfl) (by kernel_rfl) (by kernel_rfl) (by kernel_rfl) (by kernel_rfl) (by kernel_rfl)
  · simp at hb
    refine WT_done ⟨⟨[], LH c b f0 x noAsk i, 19, [], 19⟩, .inr ?_, rfl, rfl, .inr ⟨by omega, rfl, rfl⟩⟩
    exact Weak.eqs [] (by kernel_rfl) (by kernel_rfl) (by kernel_rfl) (by kernel_rfl) (by kernel_rfl) (by kernel_rfl) (by kernel_rfl) (by kernel_rfl) (by kernel_rfl) (by kernel_rfl)

set_option maxRecDepth 100000 in
set_option maxHeartbeats 1000000 in
theorem passL (c : Code) (b : Body) (f0 : Frame) (x : LX) (i : Ins) (to : Int) (h3 : 0 ≤ x.f.spent) (h4 : x.f.spent < 2000) :
    SatC Try.prog 70 [.ptr 5 0, .d (I to)] (LH c b f0 x noAsk i) 19 (fun r h' nx' => nx' = 19 ∧ r = .val (.tuple []) ∧ h' = LH c b f0 (passTo x to) noAsk i) := by
  refine SatC_byW is70 rfl ?_
  refine WT_t (by simp [inR]; omega) ?_
  refine WT_done ⟨⟨[], LH c b f0 (passTo x to) noAsk i, 19, [], 19⟩, .inr ?_, rfl, [], rfl, rfl, rfl, rfl⟩
  exact Weak.eqs [] (by kernel_rfl) (by kernel_rfl) (by kernel_rfl) (by kernel_rfl) (by kernel_rfl) (by kernel_rfl) (by kernel_rfl) (by kernel_rfl) (by kernel_rfl) (by kernel_rfl)

set_option maxRecDepth 100000 in
set_option maxHeartbeats 1000000 in
theorem nextL (c : Code) (b : Body) (f0 : Frame) (x : LX) (i : Ins) (h1 : 0 ≤ x.f.pc) (h2 : x.f.pc < 1000) (h3 : 0 ≤ x.f.spent) (h4 : x.f.spent < 2000) :
    SatC Try.prog 63 [.ptr 5 0] (LH c b f0 x noAsk i) 19 (fun r h' nx' => nx' = 19 ∧ r = .val (.tuple []) ∧ h' = LH c b f0 (passed x) noAsk i) := by
  refine SatC_byW is63 rfl ?_
  refine WT_t (by simp [inR]; omega) ?_
  refine WT_sub (passL c b f0 x i _ h3 h4) ?_
  rintro _ _ _ ⟨rfl, rfl, rfl⟩
  refine WT_done ⟨⟨[], LH c b f0 (passed x) noAsk i, 19, [], 19⟩, .inr ?_, rfl, [], rfl, rfl, rfl, rfl⟩
  exact Weak.eqs [] (by kernel_rfl) (by kernel_rfl) (by kernel_rfl) (by kernel_rfl) (by kernel_rfl) (by kernel_rfl) (by kernel_rfl) (by kernel_rfl) (by kernel_rfl) (by kernel_rfl)

set_option maxRecDepth 100000 in
set_option maxHeartbeats 1000000 in
theorem topL (c : Code) (b : Body) (f0 : Frame) (x : LX) (i : Ins) (hx : Inv c b x) :
    SatC Try.prog 65 [.ptr 5 0] (LH c b f0 x noAsk i) 19 (fun r h' nx' => nx' = 19 ∧ ((0 < x.n ∧ r = .val (.d (I (x.f.stack.getLastD 0))) ∧ h' = LH c b f0 (popped x) noAsk i) ∨ (x.n = 0 ∧ r = .pan errArg ∧ h' = LH c b f0 x noAsk i))) := by
  have h5 := hx.deep; have h6 := hx.len; have h7 := hx.le
  refine SatC_byW is65 rfl ?_
  refine WT_inl is67 rfl ?_
  refine WT_v ?_
  refine WT_sub (need_ok _ _ _ _) ?_
  rintro _ _ _ ⟨rfl, rfl, ⟨hb, rfl⟩ | ⟨hb, rfl⟩⟩
  · simp at hb
    refine WT_v ?_
    refine WT_t (by simp [inR]; omega) ?_
    refine WT_v ?_
    refine WT_t (by simp; omega) ?_
    refine WT_v ?_
    refine WT_t (by simp; omega) ?_
    refine WT_v ?_
    refine WT_t (by simp; omega) ?_
    refine WT_iret rfl rfl ?_
    refine WT_t rfl ?_
    refine WT_t (by simp; omega) ?_
    refine WT_t rfl ?_
    refine WT_elem [I (x.f.stack.getLastD 0)] (by simp only [List.getElem?_take, List.getElem?_drop]; rw [if_pos (by omega), show 0 + ((x.n : Int) - 1).toNat + (0 + (0 : Int).toNat) = x.n - 1 by omega]; exact last_row hx.pre hx.len hx.le (by omega)) ?_
    refine WT_done ⟨⟨[(2, .d (I (x.f.stack.getLastD 0)))], LH c b f0 (popped x) noAsk i, 19, [], 19⟩, .inr ?_, rfl, _, rfl, rfl, .inl ⟨by omega, rfl, rfl⟩⟩
    exact Weak.eqs [] (by kernel_rfl) (by kernel_rfl) (by kernel_rfl) (by kernel_rfl) (by kernel_rfl) (by kernel_rfl) (by kernel_rfl) (by kernel_rfl) (by kernel_rfl) (by kernel_rfl)
  · simp at hb
    refine WT_ipan rfl ?_
    refine WT_done ⟨⟨[], LH c b f0 x noAsk i, 19, [], 19⟩, .inr ?_, rfl, rfl, .inr ⟨by omega, rfl, rfl⟩⟩
    exact Weak.eqs [] (by kernel_rfl) (by kernel_rfl) (by kernel_rfl) (by kernel_rfl) (by kernel_rfl) (by kernel_rfl) (by kernel_rfl) (by kernel_rfl) (by kernel_rfl) (by kernel_rfl)


set_option maxRecDepth 100000 in
set_option maxHeartbeats 1000000 in
theorem putH (c : Code) (b : Body) (f0 : Frame) (x : LX) (i : Ins) (v : Int) (h1 : x.n ≤ x.xs.length) :
    SatC Try.prog 62 [.ptr 5 0, .d (I v)] (H19 c b f0 x noAsk i) 20 (fun r h' nx' => nx' = 20 ∧ ((x.n < 100 ∧ r = .val (.tuple []) ∧ h' = H19 c b f0 (pushed x v) noAsk i) ∨ (¬ x.n < 100 ∧ r = .pan errArg ∧ h' = H19 c b f0 x noAsk i))) := by
  refine SatC_byW is62 rfl ?_
  refine WT_v ?_
  refine WT_sub (need_ok _ _ _ _) ?_
  rintro _ _ _ ⟨rfl, rfl, ⟨hb, rfl⟩ | ⟨hb, rfl⟩⟩
  · simp at hb
    refine WT_v ?_
    refine WT_t (by simp; omega) ?_
    refine WT_done ⟨⟨[], H19 c b f0 (pushed x v) noAsk i, 20, [], 20⟩, .inr ?_, rfl, [], rfl, rfl, .inl ⟨by omega, rfl, rfl⟩⟩
    exact Weak.eqs [] (by kernel_rfl) (by kernel_rfl) (by kernel_rfl) (by kernel_rfl) (by kernel_rfl) (by kernel_rfl) (by kernel_rfl) (by kernel_rfl) (by kernel_rfl) (by kernel_rfl)
  · simp at hb
    refine WT_done ⟨⟨[], H19 c b f0 x noAsk i, 20, [], 20⟩, .inr ?_, rfl, rfl, .inr ⟨by omega, rfl, rfl⟩⟩
    exact Weak.eqs [] (by kernel_rfl) (by kernel_rfl) (by kernel_rfl) (by kernel_rfl) (by kernel_rfl) (by kernel_rfl) (by kernel_rfl) (by kernel_rfl) (by kernel_rfl) (by kernel_rfl)

set_option maxRecDepth 100000 in
set_option maxHeartbeats 1000000 in
theorem passH (c : Code) (b : Body) (f0 : Frame) (x : LX) (i : Ins) (to : Int) (h3 : 0 ≤ x.f.spent) (h4 : x.f.spent < 2000) :
    SatC Try.prog 70 [.ptr 5 0, .d (I to)] (H19 c b f0 x noAsk i) 20 (fun r h' nx' => nx' = 20 ∧ r = .val (.tuple []) ∧ h' = H19 c b f0 (passTo x to) noAsk i) := by
  refine SatC_byW is70 rfl ?_
  refine WT_t (by simp [inR]; omega) ?_
  refine WT_done ⟨⟨[], H19 c b f0 (passTo x to) noAsk i, 20, [], 20⟩, .inr ?_, rfl, [], rfl, rfl, rfl, rfl⟩
  exact Weak.eqs [] (by kernel_rfl) (by kernel_rfl) (by kernel_rfl) (by kernel_rfl) (by kernel_rfl) (by kernel_rfl) (by kernel_rfl) (by kernel_rfl) (by kernel_rfl) (by kernel_rfl)

set_option maxRecDepth 100000 in
set_option maxHeartbeats 1000000 in
theorem nextH (c : Code) (b : Body) (f0 : Frame) (x : LX) (i : Ins) (h1 : 0 ≤ x.f.pc) (h2 : x.f.pc < 1000) (h3 : 0 ≤ x.f.spent) (h4 : x.f.spent < 2000) :
    SatC Try.prog 63 [.ptr 5 0] (H19 c b f0 x noAsk i) 20 (fun r h' nx' => nx' = 20 ∧ r = .val (.tuple []) ∧ h' = H19 c b f0 (passed x) noAsk i) := by
  refine SatC_byW is63 rfl ?_
  refine WT_t (by simp [inR]; omega) ?_
  refine WT_sub (passH c b f0 x i _ h3 h4) ?_
  rintro _ _ _ ⟨rfl, rfl, rfl⟩
  refine WT_done ⟨⟨[], H19 c b f0 (passed x) noAsk i, 20, [], 20⟩, .inr ?_, rfl, [], rfl, rfl, rfl, rfl⟩
  exact Weak.eqs [] (by kernel_rfl) (by kernel_rfl) (by kernel_rfl) (by kernel_rfl) (by kernel_rfl) (by kernel_rfl) (by kernel_rfl) (by kernel_rfl) (by kernel_rfl) (by kernel_rfl)

set_option maxRecDepth 100000 in
set_option maxHeartbeats 1000000 in
theorem topH (c : Code) (b : Body) (f0 : Frame) (x : LX) (i : Ins) (hx : Inv c b x) :
    SatC Try.prog 65 [.ptr 5 0] (H19 c b f0 x noAsk i) 20 (fun r h' nx' => nx' = 20 ∧ ((0 < x.n ∧ r = .val (.d (I (x.f.stack.getLastD 0))) ∧ h' = H19 c b f0 (popped x) noAsk i) ∨ (x.n = 0 ∧ r = .pan errArg ∧ h' = H19 c b f0 x noAsk i))) := by
  have h5 := hx.deep; have h6 := hx.len; have h7 := hx.le
  refine SatC_byW is65 rfl ?_
  refine WT_inl is67 rfl ?_
  refine WT_v ?_
  refine WT_sub (need_ok _ _ _ _) ?_
  rintro _ _ _ ⟨rfl, rfl, ⟨hb, rfl⟩ | ⟨hb, rfl⟩⟩
  · simp at hb
    refine WT_v ?_
    refine WT_t (by simp [inR]; omega) ?_
    refine WT_v ?_
    refine WT_t (by simp; omega) ?_
    refine WT_v ?_
    refine WT_t (by simp; omega) ?_
    refine WT_v ?_
    refine WT_t (by simp; omega) ?_
    refine WT_iret rfl rfl ?_
    refine WT_t rfl ?_
    refine WT_t (by simp; omega) ?_
    refine WT_t rfl ?_
    refine WT_elem [I (x.f.stack.getLastD 0)] (by simp only [List.getElem?_take, List.getElem?_drop]; rw [if_pos (by omega), show 0 + ((x.n : Int) - 1).toNat + (0 + (0 : Int).toNat) = x.n - 1 by omega]; exact last_row hx.pre hx.len hx.le (by omega)) ?_
    refine WT_done ⟨⟨[(2, .d (I (x.f.stack.getLastD 0)))], H19 c b f0 (popped x) noAsk i, 20, [], 20⟩, .inr ?_, rfl, _, rfl, rfl, .inl ⟨by omega, rfl, rfl⟩⟩
    exact Weak.eqs [] (by kernel_rfl) (by kernel_rfl) (by kernel_rfl) (by kernel_rfl) (by kernel_rfl) (by kernel_rfl) (by kernel_rfl) (by kernel_rfl) (by kernel_rfl) (by kernel_rfl)
  · simp at hb
    refine WT_ipan rfl ?_
    refine WT_done ⟨⟨[], H19 c b f0 x noAsk i, 20, [], 20⟩, .inr ?_, rfl, rfl, .inr ⟨by omega, rfl, rfl⟩⟩
    exact Weak.eqs [] (by kernel_rfl) (by kernel_rfl) (by kernel_rfl) (by kernel_rfl) (by kernel_rfl) (by kernel_rfl) (by kernel_rfl) (by kernel_rfl) (by kernel_rfl) (by kernel_rfl)

end Uw.Try

/- The steps, one by one, against their plain form. -/
set_option linter.unusedVariables false
namespace Uw.Try
open Go Uw Go.Proofs

structure Mid (c : Code) (b : Body) (x : LX) : Prop where
  pre : x.xs.take x.n = rows x.f.stack
  len : x.n = x.f.stack.length
  le : x.n ≤ x.xs.length
  loc : x.ls = rows x.f.loc
  deep : x.f.stack.length ≤ 100
  pc0 : 0 ≤ x.f.pc
  pc1 : x.f.pc ≤ 1000
  sp0 : 0 ≤ x.f.spent
  sp1 : x.f.spent ≤ 2000
  locs : x.f.loc.length < 1000
  kids : x.f.kids.length < 1000

def ask0 : Ask := ⟨0, 0, 0, (0, 0, 0, 0), []⟩
/-- What is asked, without arguments. -/
def askV (a : Ask) : List V := [.d (I a.kind), .d (I a.a), .d (I a.b), .d (I a.op.1), .d (I a.op.2.1), .d (I a.op.2.2.1), .d (I a.op.2.2.2), .d .nil]

def Done (c : Code) (b : Body) (f0 : Frame) (i : Ins) (s : Option (Frame × Ask)) (r : Res) (h' : Heap) (nx' : Nat) : Prop :=
  match s with
  | none => nx' = 19 ∧ r = .pan errArg ∧ ∃ y ask, h' = LH c b f0 y ask i
  | some (g, a) => nx' = 19 ∧ r = .val (.tuple []) ∧ ∃ y, y.f = g ∧ Mid c b y ∧ h' = LH c b f0 y (askV a) i

def pass (f : Frame) (to : Int) : Frame := { f with pc := to, spent := f.spent + 1 }
def next (f : Frame) : Frame := pass f (f.pc + 1)
def putF (f : Frame) (v : Int) : Frame := { f with stack := f.stack ++ [v] }
def popF (f : Frame) : Frame := { f with stack := f.stack.dropLast }
def topF (f : Frame) : Int := f.stack.getLastD 0

theorem Inv.mid {c : Code} {b : Body} {x : LX} (h : Inv c b x) : Mid c b x := ⟨h.pre, h.len, h.le, h.loc, h.deep, h.pc0, by have := h.pc1; omega, h.sp0, by have := h.sp1; omega, h.locs, h.kids⟩

/-- A machine, with another stack. -/
theorem Mid.go {c : Code} {b : Body} {x : LX} (h : Inv c b x) (to : Int) (h0 : 0 ≤ to) (h1 : to ≤ 1000) : Mid c b (passTo x to) :=
  ⟨h.pre, h.len, h.le, h.loc, h.deep, h0, h1, by have := h.sp0; simp [passTo]; omega, by have := h.sp1; simp [passTo]; omega, h.locs, h.kids⟩

theorem rows_append (a b : List Int) : rows (a ++ b) = rows a ++ rows b := by simp [rows]

def pushedF (x : LX) (v : Int) : LX := { pushed x v with f := putF x.f v }
def poppedF (x : LX) : LX := { popped x with f := popF x.f }

theorem Inv.push {c : Code} {b : Body} {x : LX} (h : Inv c b x) (v : Int) (hn : x.n < 100) : Inv c b (pushedF x v) := by
  have h1 := h.len; have h2 := h.le
  refine ⟨?_, ?_, ?_, h.loc, ?_, h.pc0, h.pc1, h.sp0, h.sp1, h.locs, h.kids, h.ins, h.funs, h.cells⟩
  · simp only [pushedF, pushed, putF, rows_append]
    rw [List.take_of_length_le (by simp; omega), h.pre]; rfl
  · simp [pushedF, pushed, putF]; omega
  · simp [pushedF, pushed]; omega
  · simp [pushedF, putF]; omega

theorem Inv.pop {c : Code} {b : Body} {x : LX} (h : Inv c b x) (hn : 0 < x.n) : Inv c b (poppedF x) := by
  have h1 := h.len; have h2 := h.le; have h3 := h.deep
  have e : ((x.n : Int) - 1 - 0).toNat = x.n - 1 := by omega
  refine ⟨?_, ?_, ?_, h.loc, ?_, h.pc0, h.pc1, h.sp0, h.sp1, h.locs, h.kids, h.ins, h.funs, h.cells⟩
  · simp only [poppedF, popped, popF, e]
    have : x.xs.take (x.n - 1) = (x.xs.take x.n).take (x.n - 1) := by rw [List.take_take, Nat.min_eq_left (by omega)]
    rw [this, h.pre, List.dropLast_eq_take, rows, rows, List.map_take, h1]
  · simp [poppedF, popped, popF]; omega
  · simp [poppedF, popped]; omega
  · simp [poppedF, popF]; omega

theorem row_at {l : List Int} {k m : Nat} (h : k < l.length) (hm : m = k) : (rows l)[m]? = some [I (l.getD k 0)] := by
  subst hm; simp [rows, h]

def sLocal (f : Frame) (i : Ins) : Option (Frame × Ask) :=
  if below i.a f.loc.length then
    if awaited f i.a then some (f, { ask0 with kind := 5 })
    else if f.stack.length < 100 then some (next (putF f (f.loc.getD i.a.toNat 0)), ask0) else none
  else none

set_option maxRecDepth 100000 in
set_option maxHeartbeats 1000000 in
theorem i_local (c : Code) (b : Body) (f0 : Frame) (x : LX) (i : Ins) (hx : Inv c b x) :
    SatC Try.prog 42 [.ptr 5 0, .agg (insV i)] (LH c b f0 x noAsk i) 19 (Done c b f0 i (sLocal x.f i)) := by
  have h6 := hx.len
  refine SatC_byW is42 rfl ?_
  refine WT_sub (wait_ok c b f0 x i i.a hx) ?_
  rintro _ _ _ ⟨rfl, ⟨hb, rfl, rfl⟩ | ⟨hb, ha, rfl, rfl⟩ | ⟨hb, ha, rfl, rfl⟩⟩
  · have hs : sLocal x.f i = none := by simp [sLocal, hb]
    refine WT_done ⟨⟨[], LH c b f0 x noAsk i, 19, [], 19⟩, .inr ?_, rfl, ?_⟩
    · exact Weak.eqs [] (by kernel_rfl) (by kernel_rfl) (by kernel_rfl) (by kernel_rfl) (by kernel_rfl) (by kernel_rfl) (by kernel_rfl) (by kernel_rfl) (by kernel_rfl) (by kernel_rfl)
    · rw [hs]; exact ⟨rfl, rfl, _, _, rfl⟩
  · have hs : sLocal x.f i = some (x.f, { ask0 with kind := 5 }) := by simp [sLocal, hb, ha]
    refine WT_t rfl ?_
    refine WT_done ⟨⟨[], LH c b f0 x qSync i, 19, [], 19⟩, .inr ?_, rfl, [], rfl, ?_⟩
    · exact Weak.eqs [] (by kernel_rfl) (by kernel_rfl) (by kernel_rfl) (by kernel_rfl) (by kernel_rfl) (by kernel_rfl) (by kernel_rfl) (by kernel_rfl) (by kernel_rfl) (by kernel_rfl)
    · rw [hs]; exact ⟨rfl, rfl, x, rfl, hx.mid, rfl⟩
  · have hb' : 0 ≤ i.a ∧ i.a < x.f.loc.length := by simpa [below] using hb
    have hlt : i.a.toNat < x.f.loc.length := by omega
    refine WT_f rfl ?_
    refine WT_v ?_
    refine WT_t (by simp; omega) ?_
    refine WT_v ?_
    refine WT_elem [I (x.f.loc.getD i.a.toNat 0)] (by rw [hx.loc]; exact row_at hlt (by omega)) ?_
    refine WT_sub (putH c b f0 x i _ hx.le) ?_
    rintro _ _ _ ⟨rfl, ⟨hn, rfl, rfl⟩ | ⟨hn, rfl, rfl⟩⟩
    · have hs : sLocal x.f i = some (next (putF x.f (x.f.loc.getD i.a.toNat 0)), ask0) := by simp [sLocal, hb, ha]; omega
      have hy := hx.push (x.f.loc.getD i.a.toNat 0) hn
      refine WT_sub (nextH c b f0 (pushedF x (x.f.loc.getD i.a.toNat 0)) i hy.pc0 hy.pc1 hy.sp0 hy.sp1) ?_
      rintro _ _ _ ⟨rfl, rfl, rfl⟩
      refine WT_done ⟨⟨[], LH c b f0 (passed (pushedF x (x.f.loc.getD i.a.toNat 0))) noAsk i, 19, [], 19⟩, .inr ?_, rfl, [], rfl, ?_⟩
      · exact Weak.eqs [] (by kernel_rfl) (by kernel_rfl) (by kernel_rfl) (by kernel_rfl) (by kernel_rfl) (by kernel_rfl) (by kernel_rfl) (by kernel_rfl) (by kernel_rfl) (by kernel_rfl)
      · rw [hs]; exact ⟨rfl, rfl, _, rfl, Mid.go hy _ (by have := hy.pc0; omega) (by have := hy.pc1; omega), rfl⟩
    · have hs : sLocal x.f i = none := by simp [sLocal, hb, ha]; omega
      refine WT_done ⟨⟨[], LH c b f0 x noAsk i, 19, [], 19⟩, .inr ?_, rfl, ?_⟩
      · exact Weak.eqs [] (by kernel_rfl) (by kernel_rfl) (by kernel_rfl) (by kernel_rfl) (by kernel_rfl) (by kernel_rfl) (by kernel_rfl) (by kernel_rfl) (by kernel_rfl) (by kernel_rfl)
      · rw [hs]; exact ⟨rfl, rfl, _, _, rfl⟩

end Uw.Try

/- More steps (printed by printj.py). -/
set_option linter.unusedVariables false
namespace Uw.Try
open Go Uw Go.Proofs

theorem len_top {c : Code} {b : Body} {x : LX} (hx : Inv c b x) : (x.n = 0) = (x.f.stack = []) := by
  rw [hx.len, List.length_eq_zero_iff]

set_option maxRecDepth 100000 in
set_option maxHeartbeats 1000000 in
theorem join_ok (c : Code) (b : Body) (f0 : Frame) (x : LX) (i : Ins) (hx : Inv c b x) :
    SatC Try.prog 69 [.ptr 5 0] (H19 c b f0 x noAsk i) 20 (fun r h' nx' => nx' = 20 ∧
      ((x.f.kids = [] ∧ r = .val (.d (.bool false)) ∧ h' = H19 c b f0 x noAsk i) ∨ (x.f.kids ≠ [] ∧ r = .val (.d (.bool true)) ∧ h' = H19 c b f0 x qSync i))) := by
  have h5 := hx.kids
  refine SatC_byW is69 rfl ?_
  refine WT_v ?_
  refine WT_test (fun h => ?_) (fun h => ?_)
  · simp at h
    refine WT_done ⟨⟨[(2, .d (.bool false))], H19 c b f0 x noAsk i, 20, [], 20⟩, .inr ?_, rfl, _, rfl, rfl, .inl ⟨h, rfl, rfl⟩⟩
    exact Weak.eqs [] (by kernel_rfl) (by kernel_rfl) (by kernel_rfl) (by kernel_rfl) (by kernel_rfl) (by kernel_rfl) (by kernel_rfl) (by kernel_rfl) (by kernel_rfl) (by kernel_rfl)
  · simp at h
    refine WT_done ⟨⟨[(2, .d (.bool true))], H19 c b f0 x qSync i, 20, [], 20⟩, .inr ?_, rfl, _, rfl, rfl, .inr ⟨h, rfl, rfl⟩⟩
    exact Weak.eqs [] (by kernel_rfl) (by kernel_rfl) (by kernel_rfl) (by kernel_rfl) (by kernel_rfl) (by kernel_rfl) (by kernel_rfl) (by kernel_rfl) (by kernel_rfl) (by kernel_rfl)

set_option maxRecDepth 100000 in
set_option maxHeartbeats 1000000 in
theorem place_ok (c : Code) (b : Body) (f0 : Frame) (x : LX) (i : Ins) (to : Int) (hx : Inv c b x) :
    SatC Try.prog 71 [.ptr 5 0, .d (I to)] (H19 c b f0 x noAsk i) 20 (fun r h' nx' => nx' = 20 ∧ h' = H19 c b f0 x noAsk i ∧
      ((below to b.ins.length = true ∧ r = .val (.d (I to))) ∨ (below to b.ins.length = false ∧ r = .pan errArg))) := by
  have h5 := hx.ins
  refine SatC_byW is71 rfl ?_
  refine WT_call _ (s25 _ _) ?_
  refine WT_sub (need_ok _ _ _ _) ?_
  rintro _ _ _ ⟨rfl, rfl, ⟨hb, rfl⟩ | ⟨hb, rfl⟩⟩
  · refine WT_done ⟨⟨[(4, .d (I to))], H19 c b f0 x noAsk i, 20, [], 20⟩, .inr ?_, rfl, _, rfl, rfl, rfl, .inl ⟨by simpa [below] using hb, rfl⟩⟩
    exact Weak.eqs [] (by kernel_rfl) (by kernel_rfl) (by kernel_rfl) (by kernel_rfl) (by kernel_rfl) (by kernel_rfl) (by kernel_rfl) (by kernel_rfl) (by kernel_rfl) (by kernel_rfl)
  · refine WT_done ⟨⟨[], H19 c b f0 x noAsk i, 20, [], 20⟩, .inr ?_, rfl, rfl, rfl, .inr ⟨by simpa [below] using hb, rfl⟩⟩
    exact Weak.eqs [] (by kernel_rfl) (by kernel_rfl) (by kernel_rfl) (by kernel_rfl) (by kernel_rfl) (by kernel_rfl) (by kernel_rfl) (by kernel_rfl) (by kernel_rfl) (by kernel_rfl)

def sPush (f : Frame) (i : Ins) : Option (Frame × Ask) := if isVal i.a = true ∧ f.stack.length < 100 then some (next (putF f i.a), ask0) else none

set_option maxRecDepth 100000 in
set_option maxHeartbeats 1000000 in
theorem i_push2 (c : Code) (b : Body) (f0 : Frame) (x : LX) (i : Ins) (hx : Inv c b x) :
    SatC Try.prog 41 [.ptr 5 0, .agg (insV i)] (LH c b f0 x noAsk i) 19 (Done c b f0 i (sPush x.f i)) := by
  have h6 := hx.len
  refine SatC_byW is41 rfl ?_
  refine WT_call _ (s38 _) ?_
  refine WT_sub (need_ok _ _ _ _) ?_
  rintro _ _ _ ⟨rfl, rfl, ⟨hb, rfl⟩ | ⟨hb, rfl⟩⟩
  · refine WT_sub (putH c b f0 x i _ hx.le) ?_
    rintro _ _ _ ⟨rfl, ⟨hn, rfl, rfl⟩ | ⟨hn, rfl, rfl⟩⟩
    · have hs : sPush x.f i = some (next (putF x.f i.a), ask0) := by simp [sPush, hb]; omega
      have hy := hx.push i.a hn
      refine WT_sub (nextH c b f0 (pushedF x i.a) i hy.pc0 hy.pc1 hy.sp0 hy.sp1) ?_
      rintro _ _ _ ⟨rfl, rfl, rfl⟩
      refine WT_done ⟨⟨[], LH c b f0 (passed (pushedF x i.a)) noAsk i, 19, [], 19⟩, .inr ?_, rfl, [], rfl, ?_⟩
      · exact Weak.eqs [] (by kernel_rfl) (by kernel_rfl) (by kernel_rfl) (by kernel_rfl) (by kernel_rfl) (by kernel_rfl) (by kernel_rfl) (by kernel_rfl) (by kernel_rfl) (by kernel_rfl)
      · rw [hs]; exact ⟨rfl, rfl, (passed (pushedF x i.a)), rfl, Mid.go hy _ (by have := hy.pc0; omega) (by have := hy.pc1; omega), rfl⟩
    · have hs : sPush x.f i = none := by simp [sPush, hb]; omega
      refine WT_done ⟨⟨[], LH c b f0 x noAsk i, 19, [], 19⟩, .inr ?_, rfl, ?_⟩
      · exact Weak.eqs [] (by kernel_rfl) (by kernel_rfl) (by kernel_rfl) (by kernel_rfl) (by kernel_rfl) (by kernel_rfl) (by kernel_rfl) (by kernel_rfl) (by kernel_rfl) (by kernel_rfl)
      · rw [hs]; exact ⟨rfl, rfl, _, _, rfl⟩
  · have hs : sPush x.f i = none := by simp [sPush, hb]
    refine WT_done ⟨⟨[], LH c b f0 x noAsk i, 19, [], 19⟩, .inr ?_, rfl, ?_⟩
    · exact Weak.eqs [] (by kernel_rfl) (by kernel_rfl) (by kernel_rfl) (by kernel_rfl) (by kernel_rfl) (by kernel_rfl) (by kernel_rfl) (by kernel_rfl) (by kernel_rfl) (by kernel_rfl)
    · rw [hs]; exact ⟨rfl, rfl, _, _, rfl⟩

def sLoad (c : Code) (f : Frame) (i : Ins) : Option (Frame × Ask) := if below i.a c.cells.length then some (next f, { ask0 with kind := 1, a := i.a }) else none

set_option maxRecDepth 100000 in
set_option maxHeartbeats 1000000 in
theorem i_load (c : Code) (b : Body) (f0 : Frame) (x : LX) (i : Ins) (hx : Inv c b x) :
    SatC Try.prog 44 [.ptr 5 0, .agg (insV i)] (LH c b f0 x noAsk i) 19 (Done c b f0 i (sLoad c x.f i)) := by
  have h6 := hx.len
  refine SatC_byW is44 rfl ?_
  have h7 := hx.cells
  refine WT_call _ (s25 _ _) ?_
  refine WT_sub (need_ok _ _ _ _) ?_
  rintro _ _ _ ⟨rfl, rfl, ⟨hb, rfl⟩ | ⟨hb, rfl⟩⟩
  · have hs : sLoad c x.f i = some (next x.f, { ask0 with kind := 1, a := i.a }) := by simp at hb; simp [sLoad, below, hb]
    refine WT_sub (nextH c b f0 x i hx.pc0 hx.pc1 hx.sp0 hx.sp1) ?_
    rintro _ _ _ ⟨rfl, rfl, rfl⟩
    refine WT_done ⟨⟨[], LH c b f0 (passed x) (askV { ask0 with kind := 1, a := i.a }) i, 19, [], 19⟩, .inr ?_, rfl, [], rfl, ?_⟩
    · exact Weak.eqs [] (by kernel_rfl) (by kernel_rfl) (by kernel_rfl) (by kernel_rfl) (by kernel_rfl) (by kernel_rfl) (by kernel_rfl) (by kernel_rfl) (by kernel_rfl) (by kernel_rfl)
    · rw [hs]; exact ⟨rfl, rfl, (passed x), rfl, Mid.go hx _ (by have := hx.pc0; omega) (by have := hx.pc1; omega), rfl⟩
  · have hs : sLoad c x.f i = none := by simp at hb; simp [sLoad, below]; omega
    refine WT_done ⟨⟨[], LH c b f0 x noAsk i, 19, [], 19⟩, .inr ?_, rfl, ?_⟩
    · exact Weak.eqs [] (by kernel_rfl) (by kernel_rfl) (by kernel_rfl) (by kernel_rfl) (by kernel_rfl) (by kernel_rfl) (by kernel_rfl) (by kernel_rfl) (by kernel_rfl) (by kernel_rfl)
    · rw [hs]; exact ⟨rfl, rfl, _, _, rfl⟩

def sStore (c : Code) (f : Frame) (i : Ins) : Option (Frame × Ask) := if below i.a c.cells.length = true ∧ f.stack ≠ [] then some (next (popF f), { ask0 with kind := 2, a := i.a, b := topF f }) else none

set_option maxRecDepth 100000 in
set_option maxHeartbeats 1000000 in
theorem i_store (c : Code) (b : Body) (f0 : Frame) (x : LX) (i : Ins) (hx : Inv c b x) :
    SatC Try.prog 45 [.ptr 5 0, .agg (insV i)] (LH c b f0 x noAsk i) 19 (Done c b f0 i (sStore c x.f i)) := by
  have h6 := hx.len
  refine SatC_byW is45 rfl ?_
  have h7 := hx.cells
  refine WT_call _ (s25 _ _) ?_
  refine WT_sub (need_ok _ _ _ _) ?_
  rintro _ _ _ ⟨rfl, rfl, ⟨hb, rfl⟩ | ⟨hb, rfl⟩⟩
  · refine WT_sub (topH c b f0 x i hx) ?_
    rintro _ _ _ ⟨rfl, ⟨hn, rfl, rfl⟩ | ⟨hn, rfl, rfl⟩⟩
    · have he : x.f.stack ≠ [] := by intro h; rw [h6, h] at hn; simp at hn
      have hs : sStore c x.f i = some (next (popF x.f), { ask0 with kind := 2, a := i.a, b := topF x.f }) := by simp at hb; simp [sStore, below, hb, he]
      have hy := hx.pop hn
      refine WT_sub (nextH c b f0 (poppedF x) i hy.pc0 hy.pc1 hy.sp0 hy.sp1) ?_
      rintro _ _ _ ⟨rfl, rfl, rfl⟩
      refine WT_done ⟨⟨[], LH c b f0 (passed (poppedF x)) (askV { ask0 with kind := 2, a := i.a, b := topF x.f }) i, 19, [], 19⟩, .inr ?_, rfl, [], rfl, ?_⟩
      · exact Weak.eqs [] (by kernel_rfl) (by kernel_rfl) (by kernel_rfl) (by kernel_rfl) (by kernel_rfl) (by kernel_rfl) (by kernel_rfl) (by kernel_rfl) (by kernel_rfl) (by kernel_rfl)
      · rw [hs]; exact ⟨rfl, rfl, (passed (poppedF x)), rfl, Mid.go hy _ (by have := hy.pc0; omega) (by have := hy.pc1; omega), rfl⟩
    · have he : x.f.stack = [] := by rw [← len_top hx]; exact hn
      have hs : sStore c x.f i = none := by simp [sStore, he]
      refine WT_done ⟨⟨[], LH c b f0 x noAsk i, 19, [], 19⟩, .inr ?_, rfl, ?_⟩
      · exact Weak.eqs [] (by kernel_rfl) (by kernel_rfl) (by kernel_rfl) (by kernel_rfl) (by kernel_rfl) (by kernel_rfl) (by kernel_rfl) (by kernel_rfl) (by kernel_rfl) (by kernel_rfl)
      · rw [hs]; exact ⟨rfl, rfl, _, _, rfl⟩
  · have hs : sStore c x.f i = none := by simp at hb; simp [sStore, below]; omega
    refine WT_done ⟨⟨[], LH c b f0 x noAsk i, 19, [], 19⟩, .inr ?_, rfl, ?_⟩
    · exact Weak.eqs [] (by kernel_rfl) (by kernel_rfl) (by kernel_rfl) (by kernel_rfl) (by kernel_rfl) (by kernel_rfl) (by kernel_rfl) (by kernel_rfl) (by kernel_rfl) (by kernel_rfl)
    · rw [hs]; exact ⟨rfl, rfl, _, _, rfl⟩

def sDrop (f : Frame) : Option (Frame × Ask) := if f.stack ≠ [] then some (next (popF f), ask0) else none

set_option maxRecDepth 100000 in
set_option maxHeartbeats 1000000 in
theorem i_drop (c : Code) (b : Body) (f0 : Frame) (x : LX) (i : Ins) (hx : Inv c b x) :
    SatC Try.prog 54 [.ptr 5 0, .agg (insV i)] (LH c b f0 x noAsk i) 19 (Done c b f0 i (sDrop x.f)) := by
  have h6 := hx.len
  refine SatC_byW is54 rfl ?_
  refine WT_sub (topH c b f0 x i hx) ?_
  rintro _ _ _ ⟨rfl, ⟨hn, rfl, rfl⟩ | ⟨hn, rfl, rfl⟩⟩
  · have he : x.f.stack ≠ [] := by intro h; rw [h6, h] at hn; simp at hn
    have hs : sDrop x.f = some (next (popF x.f), ask0) := by simp [sDrop, he]
    have hy := hx.pop hn
    refine WT_sub (nextH c b f0 (poppedF x) i hy.pc0 hy.pc1 hy.sp0 hy.sp1) ?_
    rintro _ _ _ ⟨rfl, rfl, rfl⟩
    refine WT_done ⟨⟨[], LH c b f0 (passed (poppedF x)) noAsk i, 19, [], 19⟩, .inr ?_, rfl, [], rfl, ?_⟩
    · exact Weak.eqs [] (by kernel_rfl) (by kernel_rfl) (by kernel_rfl) (by kernel_rfl) (by kernel_rfl) (by kernel_rfl) (by kernel_rfl) (by kernel_rfl) (by kernel_rfl) (by kernel_rfl)
    · rw [hs]; exact ⟨rfl, rfl, (passed (poppedF x)), rfl, Mid.go hy _ (by have := hy.pc0; omega) (by have := hy.pc1; omega), rfl⟩
  · have he : x.f.stack = [] := by rw [← len_top hx]; exact hn
    have hs : sDrop x.f = none := by simp [sDrop, he]
    refine WT_done ⟨⟨[], LH c b f0 x noAsk i, 19, [], 19⟩, .inr ?_, rfl, ?_⟩
    · exact Weak.eqs [] (by kernel_rfl) (by kernel_rfl) (by kernel_rfl) (by kernel_rfl) (by kernel_rfl) (by kernel_rfl) (by kernel_rfl) (by kernel_rfl) (by kernel_rfl) (by kernel_rfl)
    · rw [hs]; exact ⟨rfl, rfl, _, _, rfl⟩

def sSync (f : Frame) : Option (Frame × Ask) := if f.kids = [] then some (next f, ask0) else some (f, { ask0 with kind := 5 })

set_option maxRecDepth 100000 in
set_option maxHeartbeats 1000000 in
theorem i_sync (c : Code) (b : Body) (f0 : Frame) (x : LX) (i : Ins) (hx : Inv c b x) :
    SatC Try.prog 56 [.ptr 5 0, .agg (insV i)] (LH c b f0 x noAsk i) 19 (Done c b f0 i (sSync x.f)) := by
  have h6 := hx.len
  refine SatC_byW is56 rfl ?_
  refine WT_sub (join_ok c b f0 x i hx) ?_
  rintro _ _ _ ⟨rfl, ⟨hn, rfl, rfl⟩ | ⟨hn, rfl, rfl⟩⟩
  · have hs : sSync x.f = some (next x.f, ask0) := by simp [sSync, hn]
    refine WT_t rfl ?_
    refine WT_sub (nextH c b f0 x i hx.pc0 hx.pc1 hx.sp0 hx.sp1) ?_
    rintro _ _ _ ⟨rfl, rfl, rfl⟩
    refine WT_done ⟨⟨[], LH c b f0 (passed x) noAsk i, 19, [], 19⟩, .inr ?_, rfl, [], rfl, ?_⟩
    · exact Weak.eqs [] (by kernel_rfl) (by kernel_rfl) (by kernel_rfl) (by kernel_rfl) (by kernel_rfl) (by kernel_rfl) (by kernel_rfl) (by kernel_rfl) (by kernel_rfl) (by kernel_rfl)
    · rw [hs]; exact ⟨rfl, rfl, (passed x), rfl, Mid.go hx _ (by have := hx.pc0; omega) (by have := hx.pc1; omega), rfl⟩
  · have hs : sSync x.f = some (x.f, { ask0 with kind := 5 }) := by simp [sSync, hn]
    refine WT_f rfl ?_
    refine WT_done ⟨⟨[], LH c b f0 x qSync i, 19, [], 19⟩, .inr ?_, rfl, [], rfl, ?_⟩
    · exact Weak.eqs [] (by kernel_rfl) (by kernel_rfl) (by kernel_rfl) (by kernel_rfl) (by kernel_rfl) (by kernel_rfl) (by kernel_rfl) (by kernel_rfl) (by kernel_rfl) (by kernel_rfl)
    · rw [hs]; exact ⟨rfl, rfl, x, rfl, hx.mid, rfl⟩

def sJump (b : Body) (f : Frame) (i : Ins) : Option (Frame × Ask) := if below i.a b.ins.length then some (pass f i.a, ask0) else none

set_option maxRecDepth 100000 in
set_option maxHeartbeats 1000000 in
theorem i_jump (c : Code) (b : Body) (f0 : Frame) (x : LX) (i : Ins) (hx : Inv c b x) :
    SatC Try.prog 57 [.ptr 5 0, .agg (insV i)] (LH c b f0 x noAsk i) 19 (Done c b f0 i (sJump b x.f i)) := by
  have h6 := hx.len
  refine SatC_byW is57 rfl ?_
  have h7 := hx.ins
  refine WT_sub (place_ok c b f0 x i i.a hx) ?_
  rintro _ _ _ ⟨rfl, rfl, ⟨hb, rfl⟩ | ⟨hb, rfl⟩⟩
  · have hs : sJump b x.f i = some (pass x.f i.a, ask0) := by simp [sJump, hb]
    have hb' : 0 ≤ i.a ∧ i.a < b.ins.length := by simpa [below] using hb
    refine WT_sub (passH c b f0 x i i.a hx.sp0 hx.sp1) ?_
    rintro _ _ _ ⟨rfl, rfl, rfl⟩
    refine WT_done ⟨⟨[], LH c b f0 (passTo x i.a) noAsk i, 19, [], 19⟩, .inr ?_, rfl, [], rfl, ?_⟩
    · exact Weak.eqs [] (by kernel_rfl) (by kernel_rfl) (by kernel_rfl) (by kernel_rfl) (by kernel_rfl) (by kernel_rfl) (by kernel_rfl) (by kernel_rfl) (by kernel_rfl) (by kernel_rfl)
    · rw [hs]; exact ⟨rfl, rfl, (passTo x i.a), rfl, Mid.go hx _ (by omega) (by omega), rfl⟩
  · have hs : sJump b x.f i = none := by simp [sJump, hb]
    refine WT_done ⟨⟨[], LH c b f0 x noAsk i, 19, [], 19⟩, .inr ?_, rfl, ?_⟩
    · exact Weak.eqs [] (by kernel_rfl) (by kernel_rfl) (by kernel_rfl) (by kernel_rfl) (by kernel_rfl) (by kernel_rfl) (by kernel_rfl) (by kernel_rfl) (by kernel_rfl) (by kernel_rfl)
    · rw [hs]; exact ⟨rfl, rfl, _, _, rfl⟩

def sZero (b : Body) (f : Frame) (i : Ins) : Option (Frame × Ask) := if below i.a b.ins.length = true ∧ f.stack ≠ [] then (if topF f = 0 then some (pass (popF f) i.a, ask0) else some (next (popF f), ask0)) else none

set_option maxRecDepth 100000 in
set_option maxHeartbeats 1000000 in
theorem i_zero (c : Code) (b : Body) (f0 : Frame) (x : LX) (i : Ins) (hx : Inv c b x) :
    SatC Try.prog 58 [.ptr 5 0, .agg (insV i)] (LH c b f0 x noAsk i) 19 (Done c b f0 i (sZero b x.f i)) := by
  have h6 := hx.len
  refine SatC_byW is58 rfl ?_
  have h7 := hx.ins
  refine WT_sub (place_ok c b f0 x i i.a hx) ?_
  rintro _ _ _ ⟨rfl, rfl, ⟨hb, rfl⟩ | ⟨hb, rfl⟩⟩
  · have hb' : 0 ≤ i.a ∧ i.a < b.ins.length := by simpa [below] using hb
    refine WT_sub (topH c b f0 x i hx) ?_
    rintro _ _ _ ⟨rfl, ⟨hn, rfl, rfl⟩ | ⟨hn, rfl, rfl⟩⟩
    · have he : x.f.stack ≠ [] := by intro h; rw [h6, h] at hn; simp at hn
      have hy := hx.pop hn
      refine WT_test (fun h => ?_) (fun h => ?_)
      · have h : topF x.f = 0 := by simpa [topF] using h
        have hs : sZero b x.f i = some (pass (popF x.f) i.a, ask0) := by simp [sZero, hb, he, h]
        refine WT_sub (passH c b f0 (poppedF x) i i.a hy.sp0 hy.sp1) ?_
        rintro _ _ _ ⟨rfl, rfl, rfl⟩
        refine WT_done ⟨⟨[], LH c b f0 (passTo (poppedF x) i.a) noAsk i, 19, [], 19⟩, .inr ?_, rfl, [], rfl, ?_⟩
        · exact Weak.eqs [] (by kernel_rfl) (by kernel_rfl) (by kernel_rfl) (by kernel_rfl) (by kernel_rfl) (by kernel_rfl) (by kernel_rfl) (by kernel_rfl) (by kernel_rfl) (by kernel_rfl)
        · rw [hs]; exact ⟨rfl, rfl, (passTo (poppedF x) i.a), rfl, Mid.go hy _ (by omega) (by omega), rfl⟩
      · have h : ¬ topF x.f = 0 := by simpa [topF] using h
        have hs : sZero b x.f i = some (next (popF x.f), ask0) := by simp [sZero, hb, he, h]
        refine WT_sub (nextH c b f0 (poppedF x) i hy.pc0 hy.pc1 hy.sp0 hy.sp1) ?_
        rintro _ _ _ ⟨rfl, rfl, rfl⟩
        refine WT_done ⟨⟨[], LH c b f0 (passed (poppedF x)) noAsk i, 19, [], 19⟩, .inr ?_, rfl, [], rfl, ?_⟩
        · exact Weak.eqs [] (by kernel_rfl) (by kernel_rfl) (by kernel_rfl) (by kernel_rfl) (by kernel_rfl) (by kernel_rfl) (by kernel_rfl) (by kernel_rfl) (by kernel_rfl) (by kernel_rfl)
        · rw [hs]; exact ⟨rfl, rfl, (passed (poppedF x)), rfl, Mid.go hy _ (by have := hy.pc0; omega) (by have := hy.pc1; omega), rfl⟩
    · have he : x.f.stack = [] := by rw [← len_top hx]; exact hn
      have hs : sZero b x.f i = none := by simp [sZero, he]
      refine WT_done ⟨⟨[], LH c b f0 x noAsk i, 19, [], 19⟩, .inr ?_, rfl, ?_⟩
      · exact Weak.eqs [] (by kernel_rfl) (by kernel_rfl) (by kernel_rfl) (by kernel_rfl) (by kernel_rfl) (by kernel_rfl) (by kernel_rfl) (by kernel_rfl) (by kernel_rfl) (by kernel_rfl)
      · rw [hs]; exact ⟨rfl, rfl, _, _, rfl⟩
  · have hs : sZero b x.f i = none := by simp [sZero, hb]
    refine WT_done ⟨⟨[], LH c b f0 x noAsk i, 19, [], 19⟩, .inr ?_, rfl, ?_⟩
    · exact Weak.eqs [] (by kernel_rfl) (by kernel_rfl) (by kernel_rfl) (by kernel_rfl) (by kernel_rfl) (by kernel_rfl) (by kernel_rfl) (by kernel_rfl) (by kernel_rfl) (by kernel_rfl)
    · rw [hs]; exact ⟨rfl, rfl, _, _, rfl⟩

def sEnd (f : Frame) : Option (Frame × Ask) := if f.kids = [] then (if f.stack = [] then none else some (next (popF f), { ask0 with kind := 6, a := topF f })) else some (f, { ask0 with kind := 5 })

set_option maxRecDepth 100000 in
set_option maxHeartbeats 1000000 in
theorem i_end (c : Code) (b : Body) (f0 : Frame) (x : LX) (i : Ins) (hx : Inv c b x) :
    SatC Try.prog 59 [.ptr 5 0, .agg (insV i)] (LH c b f0 x noAsk i) 19 (Done c b f0 i (sEnd x.f)) := by
  have h6 := hx.len
  refine SatC_byW is59 rfl ?_
  refine WT_sub (join_ok c b f0 x i hx) ?_
  rintro _ _ _ ⟨rfl, ⟨hk, rfl, rfl⟩ | ⟨hk, rfl, rfl⟩⟩
  · refine WT_f rfl ?_
    refine WT_sub (topH c b f0 x i hx) ?_
    rintro _ _ _ ⟨rfl, ⟨hn, rfl, rfl⟩ | ⟨hn, rfl, rfl⟩⟩
    · have he : x.f.stack ≠ [] := by intro h; rw [h6, h] at hn; simp at hn
      have hs : sEnd x.f = some (next (popF x.f), { ask0 with kind := 6, a := topF x.f }) := by simp [sEnd, hk, he]
      have hy := hx.pop hn
      refine WT_sub (nextH c b f0 (poppedF x) i hy.pc0 hy.pc1 hy.sp0 hy.sp1) ?_
      rintro _ _ _ ⟨rfl, rfl, rfl⟩
      refine WT_done ⟨⟨[], LH c b f0 (passed (poppedF x)) (askV { ask0 with kind := 6, a := topF x.f }) i, 19, [], 19⟩, .inr ?_, rfl, [], rfl, ?_⟩
      · exact Weak.eqs [] (by kernel_rfl) (by kernel_rfl) (by kernel_rfl) (by kernel_rfl) (by kernel_rfl) (by kernel_rfl) (by kernel_rfl) (by kernel_rfl) (by kernel_rfl) (by kernel_rfl)
      · rw [hs]; exact ⟨rfl, rfl, (passed (poppedF x)), rfl, Mid.go hy _ (by have := hy.pc0; omega) (by have := hy.pc1; omega), rfl⟩
    · have he : x.f.stack = [] := by rw [← len_top hx]; exact hn
      have hs : sEnd x.f = none := by simp [sEnd, hk, he]
      refine WT_done ⟨⟨[], LH c b f0 x noAsk i, 19, [], 19⟩, .inr ?_, rfl, ?_⟩
      · exact Weak.eqs [] (by kernel_rfl) (by kernel_rfl) (by kernel_rfl) (by kernel_rfl) (by kernel_rfl) (by kernel_rfl) (by kernel_rfl) (by kernel_rfl) (by kernel_rfl) (by kernel_rfl)
      · rw [hs]; exact ⟨rfl, rfl, _, _, rfl⟩
  · have hs : sEnd x.f = some (x.f, { ask0 with kind := 5 }) := by simp [sEnd, hk]
    refine WT_t rfl ?_
    refine WT_done ⟨⟨[], LH c b f0 x qSync i, 19, [], 19⟩, .inr ?_, rfl, [], rfl, ?_⟩
    · exact Weak.eqs [] (by kernel_rfl) (by kernel_rfl) (by kernel_rfl) (by kernel_rfl) (by kernel_rfl) (by kernel_rfl) (by kernel_rfl) (by kernel_rfl) (by kernel_rfl) (by kernel_rfl)
    · rw [hs]; exact ⟨rfl, rfl, x, rfl, hx.mid, rfl⟩

def sAssert (f : Frame) : Option (Frame × Ask) := if f.stack ≠ [] then some (next { popF f with fail := f.fail || decide (topF f = 0) }, ask0) else none
def failF (x : LX) : LX := { x with f := { x.f with fail := true } }
theorem Inv.failed {c : Code} {b : Body} {x : LX} (h : Inv c b x) : Inv c b (failF x) := ⟨h.pre, h.len, h.le, h.loc, h.deep, h.pc0, h.pc1, h.sp0, h.sp1, h.locs, h.kids, h.ins, h.funs, h.cells⟩

set_option maxRecDepth 100000 in
set_option maxHeartbeats 1000000 in
theorem i_assert (c : Code) (b : Body) (f0 : Frame) (x : LX) (i : Ins) (hx : Inv c b x) :
    SatC Try.prog 60 [.ptr 5 0, .agg (insV i)] (LH c b f0 x noAsk i) 19 (Done c b f0 i (sAssert x.f)) := by
  have h6 := hx.len
  refine SatC_byW is60 rfl ?_
  refine WT_sub (topH c b f0 x i hx) ?_
  rintro _ _ _ ⟨rfl, ⟨hn, rfl, rfl⟩ | ⟨hn, rfl, rfl⟩⟩
  · have he : x.f.stack ≠ [] := by intro h; rw [h6, h] at hn; simp at hn
    have hy := hx.pop hn
    refine WT_test (fun h => ?_) (fun h => ?_)
    · have h : topF x.f = 0 := by simpa [topF] using h
      have hs : sAssert x.f = some (next { popF x.f with fail := true }, ask0) := by simp [sAssert, he, h]
      have hz := hy.failed
      have g1 := hx.pc0; have g2 := hx.pc1; have g3 := hx.sp0; have g4 := hx.sp1
      refine WT_inl is63 rfl ?_
      refine WT_t (by simp [inR, popped]; omega) ?_
      refine WT_inl is70 rfl ?_
      refine WT_t (by simp [inR, popped]; omega) ?_
      refine WT_iend rfl rfl ?_
      refine WT_iend rfl rfl ?_
      refine WT_done ⟨⟨[], LH c b f0 (passed (failF (poppedF x))) noAsk i, 19, [], 19⟩, .inr ?_, rfl, [], rfl, ?_⟩
      · exact Weak.eqs [] (by kernel_rfl) (by kernel_rfl) (by kernel_rfl) (by kernel_rfl) (by kernel_rfl) (by kernel_rfl) (by kernel_rfl) (by kernel_rfl) (by kernel_rfl) (by kernel_rfl)
      · rw [hs]; exact ⟨rfl, rfl, (passed (failF (poppedF x))), rfl, Mid.go hz _ (by have := hz.pc0; omega) (by have := hz.pc1; omega), rfl⟩
    · have h : ¬ topF x.f = 0 := by simpa [topF] using h
      have hs : sAssert x.f = some (next (popF x.f), ask0) := by simp [sAssert, he, h]; rfl
      refine WT_sub (nextH c b f0 (poppedF x) i hy.pc0 hy.pc1 hy.sp0 hy.sp1) ?_
      rintro _ _ _ ⟨rfl, rfl, rfl⟩
      refine WT_done ⟨⟨[], LH c b f0 (passed (poppedF x)) noAsk i, 19, [], 19⟩, .inr ?_, rfl, [], rfl, ?_⟩
      · exact Weak.eqs [] (by kernel_rfl) (by kernel_rfl) (by kernel_rfl) (by kernel_rfl) (by kernel_rfl) (by kernel_rfl) (by kernel_rfl) (by kernel_rfl) (by kernel_rfl) (by kernel_rfl)
      · rw [hs]; exact ⟨rfl, rfl, (passed (poppedF x)), rfl, Mid.go hy _ (by have := hy.pc0; omega) (by have := hy.pc1; omega), rfl⟩
  · have he : x.f.stack = [] := by rw [← len_top hx]; exact hn
    have hs : sAssert x.f = none := by simp [sAssert, he]
    refine WT_done ⟨⟨[], LH c b f0 x noAsk i, 19, [], 19⟩, .inr ?_, rfl, ?_⟩
    · exact Weak.eqs [] (by kernel_rfl) (by kernel_rfl) (by kernel_rfl) (by kernel_rfl) (by kernel_rfl) (by kernel_rfl) (by kernel_rfl) (by kernel_rfl) (by kernel_rfl) (by kernel_rfl)
    · rw [hs]; exact ⟨rfl, rfl, _, _, rfl⟩

end Uw.Try

/- What is reckoned. -/
set_option linter.unusedVariables false
namespace Uw.Try
open Go Uw Go.Proofs

theorem mask_eq (n : Int) (k M : Nat) (hM : M = 2 ^ k) (hk : k ≤ 64) (h32 : M ≤ 4294967296) (m : Int) (hm : m = (M : Int) - 1) : IntKind.i64.wrap ((BitVec.ofInt IntKind.i64.bits n &&& BitVec.ofInt IntKind.i64.bits m).toNat : Int) = n % M := by
  subst hm
  have h1 : 1 ≤ M := hM ▸ Nat.one_le_two_pow
  have big : ((2 ^ 64 : Nat) : Int) = 18446744073709551616 := by decide
  have e : (BitVec.ofInt 64 ((M : Int) - 1)).toNat = M - 1 := by
    rw [BitVec.toNat_ofInt, Int.emod_eq_of_lt (by omega) (by rw [big]; omega)]
    omega
  have e2 : ((BitVec.ofInt IntKind.i64.bits n &&& BitVec.ofInt IntKind.i64.bits ((M : Int) - 1)).toNat : Int) = n % M := by
    show ((BitVec.ofInt 64 n &&& BitVec.ofInt 64 ((M : Int) - 1)).toNat : Int) = n % M
    rw [BitVec.toNat_and, e, hM, Nat.and_two_pow_sub_one_eq_mod, ← hM, BitVec.toNat_ofInt]
    rw [Int.natCast_emod, Int.toNat_of_nonneg (Int.emod_nonneg _ (by rw [big]; omega))]
    exact Int.emod_emod_of_dvd n (Int.natCast_dvd_natCast.2 (hM ▸ Nat.pow_dvd_pow 2 hk))
  rw [e2]
  have a := Int.emod_nonneg n (by omega : (M : Int) ≠ 0)
  have b := Int.emod_lt_of_pos n (by omega : (0 : Int) < M)
  exact wrap_in (by simp [inR]; omega)

def wrapS (n : Int) : Int := n % 4294967296
def keyS (n : Int) : Int := n % 65536

theorem s31 (n : Int) : Ret Try.prog 31 [I n] (I (wrapS n)) := by
  refine Ret_by is31 rfl ?_
  refine WT_ret rfl rfl rfl rfl ?_
  exact congrArg (fun z => I z) (mask_eq n 32 4294967296 (by decide) (by decide) (by decide) 4294967295 (by decide))

theorem s16 (n : Int) : Ret Try.prog 16 [I n] (I (keyS n)) := by
  refine Ret_by is16 rfl ?_
  refine WT_ret rfl rfl rfl rfl ?_
  exact congrArg (fun z => I z) (mask_eq n 16 65536 (by decide) (by decide) (by decide) 65535 (by decide))

theorem mod_wrap (n : Int) : wrapS (IntKind.i64.wrap n) = wrapS n := by
  rw [IntKind.wrap_i64, wrapS, wrapS]; omega

theorem s47 (x y : Int) : Ret Try.prog 47 [I x, I y] (I (wrapS (x + y))) := by
  refine Ret_by is47 rfl ?_
  refine WT_test (fun h => ?_) (fun h => ?_)
  · refine WT_call _ (s31 _) ?_
    exact WT_ret rfl rfl rfl rfl rfl
  · refine WT_call _ (s31 _) ?_
    exact WT_ret rfl rfl rfl rfl (congrArg (fun z => I z) (mod_wrap _))

theorem s48 (x y : Int) : Ret Try.prog 48 [I x, I y] (I (wrapS (x - y))) := by
  refine Ret_by is48 rfl ?_
  refine WT_test (fun h => ?_) (fun h => ?_)
  · refine WT_call _ (s31 _) ?_
    exact WT_ret rfl rfl rfl rfl rfl
  · refine WT_call _ (s31 _) ?_
    exact WT_ret rfl rfl rfl rfl (congrArg (fun z => I z) (mod_wrap _))

theorem s49 (x y : Int) : Ret Try.prog 49 [I x, I y] (I (wrapS (x * y))) := by
  refine Ret_by is49 rfl ?_
  refine WT_test (fun h => ?_) (fun h => ?_)
  · refine WT_call _ (s31 _) ?_
    exact WT_ret rfl rfl rfl rfl rfl
  · refine WT_call _ (s31 _) ?_
    exact WT_ret rfl rfl rfl rfl (congrArg (fun z => I z) (mod_wrap _))

def truth (b : Bool) : Int := if b then 1 else 0

theorem s51 (b : Bool) : Ret Try.prog 51 [.bool b] (I (truth b)) := by
  refine Ret_by is51 rfl ?_
  cases b with
  | true => refine WT_t rfl ?_; exact WT_ret rfl rfl rfl rfl rfl
  | false => refine WT_f rfl ?_; exact WT_ret rfl rfl rfl rfl rfl

theorem s50 (x y : Int) : Ret Try.prog 50 [I x, I y] (I (truth (decide (x < y)))) := by
  refine Ret_by is50 rfl ?_
  refine WT_call _ (s51 _) ?_
  exact WT_ret rfl rfl rfl rfl rfl

theorem s52 (x y : Int) : Ret Try.prog 52 [I x, I y] (I (truth (decide (x = y)))) := by
  refine Ret_by is52 rfl ?_
  refine WT_call _ (s51 _) ?_
  exact WT_ret rfl rfl rfl rfl rfl

theorem s61 (x y : Int) (hx : isVal x = true) (hy : isVal y = true) : Ret Try.prog 61 [I x, I y] (I ((x + y) / 2)) := by
  have hx' : 0 ≤ x ∧ x < 4294967296 := by simpa [isVal] using hx
  have hy' : 0 ≤ y ∧ y < 4294967296 := by simpa [isVal] using hy
  refine Ret_by is61 rfl ?_
  refine WT_t (by simp [inR]; omega) ?_
  refine WT_f rfl ?_
  have e : (x + y).tdiv 2 = (x + y) / 2 := Int.tdiv_eq_ediv_of_nonneg (by omega)
  refine WT_t (by rw [e]; simp [inR]; omega) ?_
  exact WT_ret rfl rfl rfl rfl (congrArg (fun z => I z) e)

end Uw.Try

/- The steps that reckon (printed by printl.py). -/
set_option linter.unusedVariables false
namespace Uw.Try
open Go Uw Go.Proofs

def sndF (f : Frame) : Int := topF (popF f)
def sReckon (op : Int → Int → Int) (f : Frame) : Option (Frame × Ask) := if 2 ≤ f.stack.length then some (next (putF (popF (popF f)) (op (sndF f) (topF f))), ask0) else none

/-- Two taken, one put. -/
def push2 (x : LX) (v : Int) : LX := { x with f := putF (popF (popF x.f)) v, xs := x.xs.take ((x.n : Int) - 2 - 0).toNat ++ [[I v]], n := ((x.n : Int) - 2 - 0).toNat + 1, ver := x.ver + 1 }

theorem Inv.push2 {c : Code} {b : Body} {x : LX} (h : Inv c b x) (v : Int) (hn : 2 ≤ x.n) : Inv c b (push2 x v) := by
  have h1 := h.pop (by omega)
  have e : (poppedF x).n = x.n - 1 := by simp [poppedF, popped]
  have h2 := h1.pop (by omega)
  have e2 : (poppedF (poppedF x)).n = x.n - 2 := by have : (poppedF (poppedF x)).n = (((poppedF x).n : Int) - 1 - 0).toNat := rfl; omega
  have h3 := h2.push v (by have := h.deep; have := h.len; omega)
  have : Uw.Try.push2 x v = pushedF (poppedF (poppedF x)) v := by
    have e3 : ((x.n : Int) - 2 - 0).toNat = (poppedF (poppedF x)).n := by omega
    simp only [Uw.Try.push2, e3]; rfl
  rw [this]
  exact ⟨h3.pre, h3.len, h3.le, h3.loc, h3.deep, h3.pc0, h3.pc1, h3.sp0, h3.sp1, h3.locs, h3.kids, h3.ins, h3.funs, h3.cells⟩

theorem snd_row {c : Code} {b : Body} {x : LX} (h : Inv c b x) (hn : 2 ≤ x.n) : x.xs[x.n - 2]? = some [I (sndF x.f)] := by
  have h1 := h.pop (by omega)
  have e : (poppedF x).n = x.n - 1 := by simp [poppedF, popped]
  have := last_row h1.pre h1.len h1.le (by omega)
  rw [e, show x.n - 1 - 1 = x.n - 2 by omega] at this
  exact this


set_option maxRecDepth 100000 in
set_option maxHeartbeats 1000000 in
theorem i_add (c : Code) (b : Body) (f0 : Frame) (x : LX) (i : Ins) (hx : Inv c b x) :
    SatC Try.prog 66 [.ptr 5 0, .agg (insV i), .ptr 11 0] (LH c b f0 x noAsk i) 19 (Done c b f0 i (sReckon (fun x y => wrapS (x + y)) x.f)) := by
  have h5 := hx.deep; have h6 := hx.len; have h7 := hx.le
  have g1 := hx.pc0; have g2 := hx.pc1; have g3 := hx.sp0; have g4 := hx.sp1
  refine SatC_byW is66 rfl ?_
  refine WT_inl is67 rfl ?_
  refine WT_v ?_
  refine WT_sub (need_ok _ _ _ _) ?_
  rintro _ _ _ ⟨rfl, rfl, ⟨hb, rfl⟩ | ⟨hb, rfl⟩⟩
  · simp at hb
    refine WT_v ?_
    refine WT_t (by simp [inR]; omega) ?_
    refine WT_v ?_
    refine WT_t (by simp; omega) ?_
    refine WT_v ?_
    refine WT_t (by simp; omega) ?_
    refine WT_v ?_
    refine WT_t (by simp; omega) ?_
    refine WT_iret rfl rfl ?_
    refine WT_draw ⟨[(0, .ptr 5 0)], H19 c b f0 { x with xs := x.xs.take ((x.n : Int) - 2 - 0).toNat ++ [[I (wrapS (sndF x.f + topF x.f))]], n := ((x.n : Int) - 2 - 0).toNat + 1, ver := x.ver + 1 } noAsk i, 20, [], 19⟩ ?_ ?_
    · refine WT_t rfl ?_
      refine WT_t (by simp; omega) ?_
      refine WT_t rfl ?_
      refine WT_elem [I (sndF x.f)] (by simp only [List.getElem?_take, List.getElem?_drop]; rw [if_pos (by omega), show 0 + ((x.n : Int) - 2).toNat + (0 + (0 : Int).toNat) = x.n - 2 by omega]; exact snd_row hx (by omega)) ?_
      refine WT_t rfl ?_
      refine WT_t (by simp; omega) ?_
      refine WT_t rfl ?_
      refine WT_elem [I (topF x.f)] (by simp only [List.getElem?_take, List.getElem?_drop]; rw [if_pos (by omega), show 0 + ((x.n : Int) - 2).toNat + (0 + (1 : Int).toNat) = x.n - 1 by omega]; exact last_row hx.pre hx.len hx.le (by omega)) ?_
      refine WT_subret (I (wrapS (sndF x.f + topF x.f))) is47.body rfl (s47 _ _) ?_
      refine WT_same (by kernel_rfl) ?_
      refine WT_same (by kernel_rfl) ?_
      refine WT_t rfl ?_
      refine WT_t (by simp; omega) ?_
      refine WT_same (by kernel_rfl) ?_
      refine WT_same (by kernel_rfl) ?_
      refine WT_t rfl ?_
      refine WT_t (by simp; omega) ?_
      refine WT_same (by kernel_rfl) ?_
      refine WT_inl is62 rfl ?_
      refine WT_v ?_
      refine WT_inl is36 rfl ?_
      refine WT_f (by simp; omega) ?_
      refine WT_iend rfl rfl ?_
      refine WT_v ?_
      refine WT_t (by simp; omega) ?_
      refine WT_iend rfl rfl ?_
      refine WT_same (by kernel_rfl) ?_
      refine WT_t rfl ?_
      refine WT_t (by simp; omega) ?_
      refine WT_same (by kernel_rfl) ?_
      refine WT_same (by kernel_rfl) ?_
      refine WT_t rfl ?_
      refine WT_t (by simp; omega) ?_
      refine WT_same (by kernel_rfl) ?_
      refine WT_done (.inl ⟨rfl, ?_⟩)
      exact Weak.eqs [] (by kernel_rfl) (by kernel_rfl) (by kernel_rfl) (by kernel_rfl) (by kernel_rfl) (by kernel_rfl) (by kernel_rfl) (by kernel_rfl) (by kernel_rfl) (by kernel_rfl)
    · have hs : sReckon (fun x y => wrapS (x + y)) x.f = some (next (putF (popF (popF x.f)) (wrapS (sndF x.f + topF x.f))), ask0) := by simp [sReckon]; omega
      have hy := hx.push2 (wrapS (sndF x.f + topF x.f)) (by omega)
      refine WT_sub (nextH c b f0 (push2 x (wrapS (sndF x.f + topF x.f))) i hy.pc0 hy.pc1 hy.sp0 hy.sp1) ?_
      rintro _ _ _ ⟨rfl, rfl, rfl⟩
      refine WT_done ⟨⟨[], LH c b f0 (passed (push2 x (wrapS (sndF x.f + topF x.f)))) noAsk i, 19, [], 19⟩, .inr ?_, rfl, [], rfl, ?_⟩
      · exact Weak.eqs [] (by kernel_rfl) (by kernel_rfl) (by kernel_rfl) (by kernel_rfl) (by kernel_rfl) (by kernel_rfl) (by kernel_rfl) (by kernel_rfl) (by kernel_rfl) (by kernel_rfl)
      · rw [hs]; exact ⟨rfl, rfl, _, rfl, Mid.go hy _ (by have := hy.pc0; omega) (by have := hy.pc1; omega), rfl⟩
  · have hs : sReckon (fun x y => wrapS (x + y)) x.f = none := by simp at hb; simp [sReckon]; omega
    refine WT_ipan rfl ?_
    refine WT_done ⟨⟨[], LH c b f0 x noAsk i, 19, [], 19⟩, .inr ?_, rfl, ?_⟩
    · exact Weak.eqs [] (by kernel_rfl) (by kernel_rfl) (by kernel_rfl) (by kernel_rfl) (by kernel_rfl) (by kernel_rfl) (by kernel_rfl) (by kernel_rfl) (by kernel_rfl) (by kernel_rfl)
    · rw [hs]; exact ⟨rfl, rfl, _, _, rfl⟩


set_option maxRecDepth 100000 in
set_option maxHeartbeats 1000000 in
theorem i_sub (c : Code) (b : Body) (f0 : Frame) (x : LX) (i : Ins) (hx : Inv c b x) :
    SatC Try.prog 66 [.ptr 5 0, .agg (insV i), .ptr 12 0] (LH c b f0 x noAsk i) 19 (Done c b f0 i (sReckon (fun x y => wrapS (x - y)) x.f)) := by
  have h5 := hx.deep; have h6 := hx.len; have h7 := hx.le
  have g1 := hx.pc0; have g2 := hx.pc1; have g3 := hx.sp0; have g4 := hx.sp1
  refine SatC_byW is66 rfl ?_
  refine WT_inl is67 rfl ?_
  refine WT_v ?_
  refine WT_sub (need_ok _ _ _ _) ?_
  rintro _ _ _ ⟨rfl, rfl, ⟨hb, rfl⟩ | ⟨hb, rfl⟩⟩
  · simp at hb
    refine WT_v ?_
    refine WT_t (by simp [inR]; omega) ?_
    refine WT_v ?_
    refine WT_t (by simp; omega) ?_
    refine WT_v ?_
    refine WT_t (by simp; omega) ?_
    refine WT_v ?_
    refine WT_t (by simp; omega) ?_
    refine WT_iret rfl rfl ?_
    refine WT_draw ⟨[(0, .ptr 5 0)], H19 c b f0 { x with xs := x.xs.take ((x.n : Int) - 2 - 0).toNat ++ [[I (wrapS (sndF x.f - topF x.f))]], n := ((x.n : Int) - 2 - 0).toNat + 1, ver := x.ver + 1 } noAsk i, 20, [], 19⟩ ?_ ?_
    · refine WT_t rfl ?_
      refine WT_t (by simp; omega) ?_
      refine WT_t rfl ?_
      refine WT_elem [I (sndF x.f)] (by simp only [List.getElem?_take, List.getElem?_drop]; rw [if_pos (by omega), show 0 + ((x.n : Int) - 2).toNat + (0 + (0 : Int).toNat) = x.n - 2 by omega]; exact snd_row hx (by omega)) ?_
      refine WT_t rfl ?_
      refine WT_t (by simp; omega) ?_
      refine WT_t rfl ?_
      refine WT_elem [I (topF x.f)] (by simp only [List.getElem?_take, List.getElem?_drop]; rw [if_pos (by omega), show 0 + ((x.n : Int) - 2).toNat + (0 + (1 : Int).toNat) = x.n - 1 by omega]; exact last_row hx.pre hx.len hx.le (by omega)) ?_
      refine WT_subret (I (wrapS (sndF x.f - topF x.f))) is48.body rfl (s48 _ _) ?_
      refine WT_same (by kernel_rfl) ?_
      refine WT_same (by kernel_rfl) ?_
      refine WT_t rfl ?_
      refine WT_t (by simp; omega) ?_
      refine WT_same (by kernel_rfl) ?_
      refine WT_same (by kernel_rfl) ?_
      refine WT_t rfl ?_
      refine WT_t (by simp; omega) ?_
      refine WT_same (by kernel_rfl) ?_
      refine WT_inl is62 rfl ?_
      refine WT_v ?_
      refine WT_inl is36 rfl ?_
      refine WT_f (by simp; omega) ?_
      refine WT_iend rfl rfl ?_
      refine WT_v ?_
      refine WT_t (by simp; omega) ?_
      refine WT_iend rfl rfl ?_
      refine WT_same (by kernel_rfl) ?_
      refine WT_t rfl ?_
      refine WT_t (by simp; omega) ?_
      refine WT_same (by kernel_rfl) ?_
      refine WT_same (by kernel_rfl) ?_
      refine WT_t rfl ?_
      refine WT_t (by simp; omega) ?_
      refine WT_same (by kernel_rfl) ?_
      refine WT_done (.inl ⟨rfl, ?_⟩)
      exact Weak.eqs [] (by kernel_rfl) (by kernel_rfl) (by kernel_rfl) (by kernel_rfl) (by kernel_rfl) (by kernel_rfl) (by kernel_rfl) (by kernel_rfl) (by kernel_rfl) (by kernel_rfl)
    · have hs : sReckon (fun x y => wrapS (x - y)) x.f = some (next (putF (popF (popF x.f)) (wrapS (sndF x.f - topF x.f))), ask0) := by simp [sReckon]; omega
      have hy := hx.push2 (wrapS (sndF x.f - topF x.f)) (by omega)
      refine WT_sub (nextH c b f0 (push2 x (wrapS (sndF x.f - topF x.f))) i hy.pc0 hy.pc1 hy.sp0 hy.sp1) ?_
      rintro _ _ _ ⟨rfl, rfl, rfl⟩
      refine WT_done ⟨⟨[], LH c b f0 (passed (push2 x (wrapS (sndF x.f - topF x.f)))) noAsk i, 19, [], 19⟩, .inr ?_, rfl, [], rfl, ?_⟩
      · exact Weak.eqs [] (by kernel_rfl) (by kernel_rfl) (by kernel_rfl) (by kernel_rfl) (by kernel_rfl) (by kernel_rfl) (by kernel_rfl) (by kernel_rfl) (by kernel_rfl) (by kernel_rfl)
      · rw [hs]; exact ⟨rfl, rfl, _, rfl, Mid.go hy _ (by have := hy.pc0; omega) (by have := hy.pc1; omega), rfl⟩
  · have hs : sReckon (fun x y => wrapS (x - y)) x.f = none := by simp at hb; simp [sReckon]; omega
    refine WT_ipan rfl ?_
    refine WT_done ⟨⟨[], LH c b f0 x noAsk i, 19, [], 19⟩, .inr ?_, rfl, ?_⟩
    · exact Weak.eqs [] (by kernel_rfl) (by kernel_rfl) (by kernel_rfl) (by kernel_rfl) (by kernel_rfl) (by kernel_rfl) (by kernel_rfl) (by kernel_rfl) (by kernel_rfl) (by kernel_rfl)
    · rw [hs]; exact ⟨rfl, rfl, _, _, rfl⟩


set_option maxRecDepth 100000 in
set_option maxHeartbeats 1000000 in
theorem i_mul (c : Code) (b : Body) (f0 : Frame) (x : LX) (i : Ins) (hx : Inv c b x) :
    SatC Try.prog 66 [.ptr 5 0, .agg (insV i), .ptr 13 0] (LH c b f0 x noAsk i) 19 (Done c b f0 i (sReckon (fun x y => wrapS (x * y)) x.f)) := by
  have h5 := hx.deep; have h6 := hx.len; have h7 := hx.le
  have g1 := hx.pc0; have g2 := hx.pc1; have g3 := hx.sp0; have g4 := hx.sp1
  refine SatC_byW is66 rfl ?_
  refine WT_inl is67 rfl ?_
  refine WT_v ?_
  refine WT_sub (need_ok _ _ _ _) ?_
  rintro _ _ _ ⟨rfl, rfl, ⟨hb, rfl⟩ | ⟨hb, rfl⟩⟩
  · simp at hb
    refine WT_v ?_
    refine WT_t (by simp [inR]; omega) ?_
    refine WT_v ?_
    refine WT_t (by simp; omega) ?_
    refine WT_v ?_
    refine WT_t (by simp; omega) ?_
    refine WT_v ?_
    refine WT_t (by simp; omega) ?_
    refine WT_iret rfl rfl ?_
    refine WT_draw ⟨[(0, .ptr 5 0)], H19 c b f0 { x with xs := x.xs.take ((x.n : Int) - 2 - 0).toNat ++ [[I (wrapS (sndF x.f * topF x.f))]], n := ((x.n : Int) - 2 - 0).toNat + 1, ver := x.ver + 1 } noAsk i, 20, [], 19⟩ ?_ ?_
    · refine WT_t rfl ?_
      refine WT_t (by simp; omega) ?_
      refine WT_t rfl ?_
      refine WT_elem [I (sndF x.f)] (by simp only [List.getElem?_take, List.getElem?_drop]; rw [if_pos (by omega), show 0 + ((x.n : Int) - 2).toNat + (0 + (0 : Int).toNat) = x.n - 2 by omega]; exact snd_row hx (by omega)) ?_
      refine WT_t rfl ?_
      refine WT_t (by simp; omega) ?_
      refine WT_t rfl ?_
      refine WT_elem [I (topF x.f)] (by simp only [List.getElem?_take, List.getElem?_drop]; rw [if_pos (by omega), show 0 + ((x.n : Int) - 2).toNat + (0 + (1 : Int).toNat) = x.n - 1 by omega]; exact last_row hx.pre hx.len hx.le (by omega)) ?_
      refine WT_subret (I (wrapS (sndF x.f * topF x.f))) is49.body rfl (s49 _ _) ?_
      refine WT_same (by kernel_rfl) ?_
      refine WT_same (by kernel_rfl) ?_
      refine WT_t rfl ?_
      refine WT_t (by simp; omega) ?_
      refine WT_same (by kernel_rfl) ?_
      refine WT_same (by kernel_rfl) ?_
      refine WT_t rfl ?_
      refine WT_t (by simp; omega) ?_
      refine WT_same (by kernel_rfl) ?_
      refine WT_inl is62 rfl ?_
      refine WT_v ?_
      refine WT_inl is36 rfl ?_
      refine WT_f (by simp; omega) ?_
      refine WT_iend rfl rfl ?_
      refine WT_v ?_
      refine WT_t (by simp; omega) ?_
      refine WT_iend rfl rfl ?_
      refine WT_same (by kernel_rfl) ?_
      refine WT_t rfl ?_
      refine WT_t (by simp; omega) ?_
      refine WT_same (by kernel_rfl) ?_
      refine WT_same (by kernel_rfl) ?_
      refine WT_t rfl ?_
      refine WT_t (by simp; omega) ?_
      refine WT_same (by kernel_rfl) ?_
      refine WT_done (.inl ⟨rfl, ?_⟩)
      exact Weak.eqs [] (by kernel_rfl) (by kernel_rfl) (by kernel_rfl) (by kernel_rfl) (by kernel_rfl) (by kernel_rfl) (by kernel_rfl) (by kernel_rfl) (by kernel_rfl) (by kernel_rfl)
    · have hs : sReckon (fun x y => wrapS (x * y)) x.f = some (next (putF (popF (popF x.f)) (wrapS (sndF x.f * topF x.f))), ask0) := by simp [sReckon]; omega
      have hy := hx.push2 (wrapS (sndF x.f * topF x.f)) (by omega)
      refine WT_sub (nextH c b f0 (push2 x (wrapS (sndF x.f * topF x.f))) i hy.pc0 hy.pc1 hy.sp0 hy.sp1) ?_
      rintro _ _ _ ⟨rfl, rfl, rfl⟩
      refine WT_done ⟨⟨[], LH c b f0 (passed (push2 x (wrapS (sndF x.f * topF x.f)))) noAsk i, 19, [], 19⟩, .inr ?_, rfl, [], rfl, ?_⟩
      · exact Weak.eqs [] (by kernel_rfl) (by kernel_rfl) (by kernel_rfl) (by kernel_rfl) (by kernel_rfl) (by kernel_rfl) (by kernel_rfl) (by kernel_rfl) (by kernel_rfl) (by kernel_rfl)
      · rw [hs]; exact ⟨rfl, rfl, _, rfl, Mid.go hy _ (by have := hy.pc0; omega) (by have := hy.pc1; omega), rfl⟩
  · have hs : sReckon (fun x y => wrapS (x * y)) x.f = none := by simp at hb; simp [sReckon]; omega
    refine WT_ipan rfl ?_
    refine WT_done ⟨⟨[], LH c b f0 x noAsk i, 19, [], 19⟩, .inr ?_, rfl, ?_⟩
    · exact Weak.eqs [] (by kernel_rfl) (by kernel_rfl) (by kernel_rfl) (by kernel_rfl) (by kernel_rfl) (by kernel_rfl) (by kernel_rfl) (by kernel_rfl) (by kernel_rfl) (by kernel_rfl)
    · rw [hs]; exact ⟨rfl, rfl, _, _, rfl⟩


set_option maxRecDepth 100000 in
set_option maxHeartbeats 1000000 in
theorem i_less (c : Code) (b : Body) (f0 : Frame) (x : LX) (i : Ins) (hx : Inv c b x) :
    SatC Try.prog 66 [.ptr 5 0, .agg (insV i), .ptr 14 0] (LH c b f0 x noAsk i) 19 (Done c b f0 i (sReckon (fun x y => truth (decide (x < y))) x.f)) := by
  have h5 := hx.deep; have h6 := hx.len; have h7 := hx.le
  have g1 := hx.pc0; have g2 := hx.pc1; have g3 := hx.sp0; have g4 := hx.sp1
  refine SatC_byW is66 rfl ?_
  refine WT_inl is67 rfl ?_
  refine WT_v ?_
  refine WT_sub (need_ok _ _ _ _) ?_
  rintro _ _ _ ⟨rfl, rfl, ⟨hb, rfl⟩ | ⟨hb, rfl⟩⟩
  · simp at hb
    refine WT_v ?_
    refine WT_t (by simp [inR]; omega) ?_
    refine WT_v ?_
    refine WT_t (by simp; omega) ?_
    refine WT_v ?_
    refine WT_t (by simp; omega) ?_
    refine WT_v ?_
    refine WT_t (by simp; omega) ?_
    refine WT_iret rfl rfl ?_
    refine WT_draw ⟨[(0, .ptr 5 0)], H19 c b f0 { x with xs := x.xs.take ((x.n : Int) - 2 - 0).toNat ++ [[I (truth (decide (sndF x.f < topF x.f)))]], n := ((x.n : Int) - 2 - 0).toNat + 1, ver := x.ver + 1 } noAsk i, 20, [], 19⟩ ?_ ?_
    · refine WT_t rfl ?_
      refine WT_t (by simp; omega) ?_
      refine WT_t rfl ?_
      refine WT_elem [I (sndF x.f)] (by simp only [List.getElem?_take, List.getElem?_drop]; rw [if_pos (by omega), show 0 + ((x.n : Int) - 2).toNat + (0 + (0 : Int).toNat) = x.n - 2 by omega]; exact snd_row hx (by omega)) ?_
      refine WT_t rfl ?_
      refine WT_t (by simp; omega) ?_
      refine WT_t rfl ?_
      refine WT_elem [I (topF x.f)] (by simp only [List.getElem?_take, List.getElem?_drop]; rw [if_pos (by omega), show 0 + ((x.n : Int) - 2).toNat + (0 + (1 : Int).toNat) = x.n - 1 by omega]; exact last_row hx.pre hx.len hx.le (by omega)) ?_
      refine WT_subret (I (truth (decide (sndF x.f < topF x.f)))) is50.body rfl (s50 _ _) ?_
      refine WT_same (by kernel_rfl) ?_
      refine WT_same (by kernel_rfl) ?_
      refine WT_t rfl ?_
      refine WT_t (by simp; omega) ?_
      refine WT_same (by kernel_rfl) ?_
      refine WT_same (by kernel_rfl) ?_
      refine WT_t rfl ?_
      refine WT_t (by simp; omega) ?_
      refine WT_same (by kernel_rfl) ?_
      refine WT_inl is62 rfl ?_
      refine WT_v ?_
      refine WT_inl is36 rfl ?_
      refine WT_f (by simp; omega) ?_
      refine WT_iend rfl rfl ?_
      refine WT_v ?_
      refine WT_t (by simp; omega) ?_
      refine WT_iend rfl rfl ?_
      refine WT_same (by kernel_rfl) ?_
      refine WT_t rfl ?_
      refine WT_t (by simp; omega) ?_
      refine WT_same (by kernel_rfl) ?_
      refine WT_same (by kernel_rfl) ?_
      refine WT_t rfl ?_
      refine WT_t (by simp; omega) ?_
      refine WT_same (by kernel_rfl) ?_
      refine WT_done (.inl ⟨rfl, ?_⟩)
      exact Weak.eqs [] (by kernel_rfl) (by kernel_rfl) (by kernel_rfl) (by kernel_rfl) (by kernel_rfl) (by kernel_rfl) (by kernel_rfl) (by kernel_rfl) (by kernel_rfl) (by kernel_rfl)
    · have hs : sReckon (fun x y => truth (decide (x < y))) x.f = some (next (putF (popF (popF x.f)) (truth (decide (sndF x.f < topF x.f)))), ask0) := by simp [sReckon]; omega
      have hy := hx.push2 (truth (decide (sndF x.f < topF x.f))) (by omega)
      refine WT_sub (nextH c b f0 (push2 x (truth (decide (sndF x.f < topF x.f)))) i hy.pc0 hy.pc1 hy.sp0 hy.sp1) ?_
      rintro _ _ _ ⟨rfl, rfl, rfl⟩
      refine WT_done ⟨⟨[], LH c b f0 (passed (push2 x (truth (decide (sndF x.f < topF x.f))))) noAsk i, 19, [], 19⟩, .inr ?_, rfl, [], rfl, ?_⟩
      · exact Weak.eqs [] (by kernel_rfl) (by kernel_rfl) (by kernel_rfl) (by kernel_rfl) (by kernel_rfl) (by kernel_rfl) (by kernel_rfl) (by kernel_rfl) (by kernel_rfl) (by kernel_rfl)
      · rw [hs]; exact ⟨rfl, rfl, _, rfl, Mid.go hy _ (by have := hy.pc0; omega) (by have := hy.pc1; omega), rfl⟩
  · have hs : sReckon (fun x y => truth (decide (x < y))) x.f = none := by simp at hb; simp [sReckon]; omega
    refine WT_ipan rfl ?_
    refine WT_done ⟨⟨[], LH c b f0 x noAsk i, 19, [], 19⟩, .inr ?_, rfl, ?_⟩
    · exact Weak.eqs [] (by kernel_rfl) (by kernel_rfl) (by kernel_rfl) (by kernel_rfl) (by kernel_rfl) (by kernel_rfl) (by kernel_rfl) (by kernel_rfl) (by kernel_rfl) (by kernel_rfl)
    · rw [hs]; exact ⟨rfl, rfl, _, _, rfl⟩


set_option maxRecDepth 100000 in
set_option maxHeartbeats 1000000 in
theorem i_eq (c : Code) (b : Body) (f0 : Frame) (x : LX) (i : Ins) (hx : Inv c b x) :
    SatC Try.prog 66 [.ptr 5 0, .agg (insV i), .ptr 15 0] (LH c b f0 x noAsk i) 19 (Done c b f0 i (sReckon (fun x y => truth (decide (x = y))) x.f)) := by
  have h5 := hx.deep; have h6 := hx.len; have h7 := hx.le
  have g1 := hx.pc0; have g2 := hx.pc1; have g3 := hx.sp0; have g4 := hx.sp1
  refine SatC_byW is66 rfl ?_
  refine WT_inl is67 rfl ?_
  refine WT_v ?_
  refine WT_sub (need_ok _ _ _ _) ?_
  rintro _ _ _ ⟨rfl, rfl, ⟨hb, rfl⟩ | ⟨hb, rfl⟩⟩
  · simp at hb
    refine WT_v ?_
    refine WT_t (by simp [inR]; omega) ?_
    refine WT_v ?_
    refine WT_t (by simp; omega) ?_
    refine WT_v ?_
    refine WT_t (by simp; omega) ?_
    refine WT_v ?_
    refine WT_t (by simp; omega) ?_
    refine WT_iret rfl rfl ?_
    refine WT_draw ⟨[(0, .ptr 5 0)], H19 c b f0 { x with xs := x.xs.take ((x.n : Int) - 2 - 0).toNat ++ [[I (truth (decide (sndF x.f = topF x.f)))]], n := ((x.n : Int) - 2 - 0).toNat + 1, ver := x.ver + 1 } noAsk i, 20, [], 19⟩ ?_ ?_
    · refine WT_t rfl ?_
      refine WT_t (by simp; omega) ?_
      refine WT_t rfl ?_
      refine WT_elem [I (sndF x.f)] (by simp only [List.getElem?_take, List.getElem?_drop]; rw [if_pos (by omega), show 0 + ((x.n : Int) - 2).toNat + (0 + (0 : Int).toNat) = x.n - 2 by omega]; exact snd_row hx (by omega)) ?_
      refine WT_t rfl ?_
      refine WT_t (by simp; omega) ?_
      refine WT_t rfl ?_
      refine WT_elem [I (topF x.f)] (by simp only [List.getElem?_take, List.getElem?_drop]; rw [if_pos (by omega), show 0 + ((x.n : Int) - 2).toNat + (0 + (1 : Int).toNat) = x.n - 1 by omega]; exact last_row hx.pre hx.len hx.le (by omega)) ?_
      refine WT_subret (I (truth (decide (sndF x.f = topF x.f)))) is52.body rfl (s52 _ _) ?_
      refine WT_same (by kernel_rfl) ?_
      refine WT_same (by kernel_rfl) ?_
      refine WT_t rfl ?_
      refine WT_t (by simp; omega) ?_
      refine WT_same (by kernel_rfl) ?_
      refine WT_same (by kernel_rfl) ?_
      refine WT_t rfl ?_
      refine WT_t (by simp; omega) ?_
      refine WT_same (by kernel_rfl) ?_
      refine WT_inl is62 rfl ?_
      refine WT_v ?_
      refine WT_inl is36 rfl ?_
      refine WT_f (by simp; omega) ?_
      refine WT_iend rfl rfl ?_
      refine WT_v ?_
      refine WT_t (by simp; omega) ?_
      refine WT_iend rfl rfl ?_
      refine WT_same (by kernel_rfl) ?_
      refine WT_t rfl ?_
      refine WT_t (by simp; omega) ?_
      refine WT_same (by kernel_rfl) ?_
      refine WT_same (by kernel_rfl) ?_
      refine WT_t rfl ?_
      refine WT_t (by simp; omega) ?_
      refine WT_same (by kernel_rfl) ?_
      refine WT_done (.inl ⟨rfl, ?_⟩)
      exact Weak.eqs [] (by kernel_rfl) (by kernel_rfl) (by kernel_rfl) (by kernel_rfl) (by kernel_rfl) (by kernel_rfl) (by kernel_rfl) (by kernel_rfl) (by kernel_rfl) (by kernel_rfl)
    · have hs : sReckon (fun x y => truth (decide (x = y))) x.f = some (next (putF (popF (popF x.f)) (truth (decide (sndF x.f = topF x.f)))), ask0) := by simp [sReckon]; omega
      have hy := hx.push2 (truth (decide (sndF x.f = topF x.f))) (by omega)
      refine WT_sub (nextH c b f0 (push2 x (truth (decide (sndF x.f = topF x.f)))) i hy.pc0 hy.pc1 hy.sp0 hy.sp1) ?_
      rintro _ _ _ ⟨rfl, rfl, rfl⟩
      refine WT_done ⟨⟨[], LH c b f0 (passed (push2 x (truth (decide (sndF x.f = topF x.f))))) noAsk i, 19, [], 19⟩, .inr ?_, rfl, [], rfl, ?_⟩
      · exact Weak.eqs [] (by kernel_rfl) (by kernel_rfl) (by kernel_rfl) (by kernel_rfl) (by kernel_rfl) (by kernel_rfl) (by kernel_rfl) (by kernel_rfl) (by kernel_rfl) (by kernel_rfl)
      · rw [hs]; exact ⟨rfl, rfl, _, rfl, Mid.go hy _ (by have := hy.pc0; omega) (by have := hy.pc1; omega), rfl⟩
  · have hs : sReckon (fun x y => truth (decide (x = y))) x.f = none := by simp at hb; simp [sReckon]; omega
    refine WT_ipan rfl ?_
    refine WT_done ⟨⟨[], LH c b f0 x noAsk i, 19, [], 19⟩, .inr ?_, rfl, ?_⟩
    · exact Weak.eqs [] (by kernel_rfl) (by kernel_rfl) (by kernel_rfl) (by kernel_rfl) (by kernel_rfl) (by kernel_rfl) (by kernel_rfl) (by kernel_rfl) (by kernel_rfl) (by kernel_rfl)
    · rw [hs]; exact ⟨rfl, rfl, _, _, rfl⟩


set_option maxRecDepth 100000 in
set_option maxHeartbeats 1000000 in
theorem i_half (c : Code) (b : Body) (f0 : Frame) (x : LX) (i : Ins) (hx : Inv c b x) (v1 : isVal (sndF x.f) = true) (v2 : isVal (topF x.f) = true) :
    SatC Try.prog 66 [.ptr 5 0, .agg (insV i), .ptr 16 0] (LH c b f0 x noAsk i) 19 (Done c b f0 i (sReckon (fun x y => (x + y) / 2) x.f)) := by
  have h5 := hx.deep; have h6 := hx.len; have h7 := hx.le
  have g1 := hx.pc0; have g2 := hx.pc1; have g3 := hx.sp0; have g4 := hx.sp1
  refine SatC_byW is66 rfl ?_
  refine WT_inl is67 rfl ?_
  refine WT_v ?_
  refine WT_sub (need_ok _ _ _ _) ?_
  rintro _ _ _ ⟨rfl, rfl, ⟨hb, rfl⟩ | ⟨hb, rfl⟩⟩
  · simp at hb
    refine WT_v ?_
    refine WT_t (by simp [inR]; omega) ?_
    refine WT_v ?_
    refine WT_t (by simp; omega) ?_
    refine WT_v ?_
    refine WT_t (by simp; omega) ?_
    refine WT_v ?_
    refine WT_t (by simp; omega) ?_
    refine WT_iret rfl rfl ?_
    refine WT_draw ⟨[(0, .ptr 5 0)], H19 c b f0 { x with xs := x.xs.take ((x.n : Int) - 2 - 0).toNat ++ [[I ((sndF x.f + topF x.f) / 2)]], n := ((x.n : Int) - 2 - 0).toNat + 1, ver := x.ver + 1 } noAsk i, 20, [], 19⟩ ?_ ?_
    · refine WT_t rfl ?_
      refine WT_t (by simp; omega) ?_
      refine WT_t rfl ?_
      refine WT_elem [I (sndF x.f)] (by simp only [List.getElem?_take, List.getElem?_drop]; rw [if_pos (by omega), show 0 + ((x.n : Int) - 2).toNat + (0 + (0 : Int).toNat) = x.n - 2 by omega]; exact snd_row hx (by omega)) ?_
      refine WT_t rfl ?_
      refine WT_t (by simp; omega) ?_
      refine WT_t rfl ?_
      refine WT_elem [I (topF x.f)] (by simp only [List.getElem?_take, List.getElem?_drop]; rw [if_pos (by omega), show 0 + ((x.n : Int) - 2).toNat + (0 + (1 : Int).toNat) = x.n - 1 by omega]; exact last_row hx.pre hx.len hx.le (by omega)) ?_
      refine WT_subret (I ((sndF x.f + topF x.f) / 2)) is61.body rfl (s61 _ _ v1 v2) ?_
      refine WT_same (by kernel_rfl) ?_
      refine WT_same (by kernel_rfl) ?_
      refine WT_t rfl ?_
      refine WT_t (by simp; omega) ?_
      refine WT_same (by kernel_rfl) ?_
      refine WT_same (by kernel_rfl) ?_
      refine WT_t rfl ?_
      refine WT_t (by simp; omega) ?_
      refine WT_same (by kernel_rfl) ?_
      refine WT_inl is62 rfl ?_
      refine WT_v ?_
      refine WT_inl is36 rfl ?_
      refine WT_f (by simp; omega) ?_
      refine WT_iend rfl rfl ?_
      refine WT_v ?_
      refine WT_t (by simp; omega) ?_
      refine WT_iend rfl rfl ?_
      refine WT_same (by kernel_rfl) ?_
      refine WT_t rfl ?_
      refine WT_t (by simp; omega) ?_
      refine WT_same (by kernel_rfl) ?_
      refine WT_same (by kernel_rfl) ?_
      refine WT_t rfl ?_
      refine WT_t (by simp; omega) ?_
      refine WT_same (by kernel_rfl) ?_
      refine WT_done (.inl ⟨rfl, ?_⟩)
      exact Weak.eqs [] (by kernel_rfl) (by kernel_rfl) (by kernel_rfl) (by kernel_rfl) (by kernel_rfl) (by kernel_rfl) (by kernel_rfl) (by kernel_rfl) (by kernel_rfl) (by kernel_rfl)
    · have hs : sReckon (fun x y => (x + y) / 2) x.f = some (next (putF (popF (popF x.f)) ((sndF x.f + topF x.f) / 2)), ask0) := by simp [sReckon]; omega
      have hy := hx.push2 ((sndF x.f + topF x.f) / 2) (by omega)
      refine WT_sub (nextH c b f0 (push2 x ((sndF x.f + topF x.f) / 2)) i hy.pc0 hy.pc1 hy.sp0 hy.sp1) ?_
      rintro _ _ _ ⟨rfl, rfl, rfl⟩
      refine WT_done ⟨⟨[], LH c b f0 (passed (push2 x ((sndF x.f + topF x.f) / 2))) noAsk i, 19, [], 19⟩, .inr ?_, rfl, [], rfl, ?_⟩
      · exact Weak.eqs [] (by kernel_rfl) (by kernel_rfl) (by kernel_rfl) (by kernel_rfl) (by kernel_rfl) (by kernel_rfl) (by kernel_rfl) (by kernel_rfl) (by kernel_rfl) (by kernel_rfl)
      · rw [hs]; exact ⟨rfl, rfl, _, rfl, Mid.go hy _ (by have := hy.pc0; omega) (by have := hy.pc1; omega), rfl⟩
  · have hs : sReckon (fun x y => (x + y) / 2) x.f = none := by simp at hb; simp [sReckon]; omega
    refine WT_ipan rfl ?_
    refine WT_done ⟨⟨[], LH c b f0 x noAsk i, 19, [], 19⟩, .inr ?_, rfl, ?_⟩
    · exact Weak.eqs [] (by kernel_rfl) (by kernel_rfl) (by kernel_rfl) (by kernel_rfl) (by kernel_rfl) (by kernel_rfl) (by kernel_rfl) (by kernel_rfl) (by kernel_rfl) (by kernel_rfl)
    · rw [hs]; exact ⟨rfl, rfl, _, _, rfl⟩


end Uw.Try

/- The step set. -/
set_option linter.unusedVariables false
namespace Uw.Try
open Go Uw Go.Proofs

def setF (f : Frame) (l : Int) (v : Int) : Frame := { f with loc := f.loc.set l.toNat v }
def sSet (f : Frame) (i : Ins) : Option (Frame × Ask) :=
  if below i.a f.loc.length then
    if awaited f i.a then some (f, { ask0 with kind := 5 })
    else if f.stack = [] then none else some (next (setF (popF f) i.a (topF f)), ask0)
  else none

theorem WT_drawP {P : Program} {Q : MExit → St → Prop} {fuel : Nat} {l : List DOp} {st : St} {k : MExit → St → Tree} (R : Prop) (S : St) (h : WT P (fun e s => (e = .normal ∧ R ∧ Weak s S) ∨ (∃ d, e = .panic d ∧ ∃ s', Weak s s' ∧ WT P Q (k e s'))) (drawT l (keepR l st.regs) fuel [] [] st Tree.done)) (h2 : R → WT P Q (k .normal S)) : WT P Q (.code (.draw fuel l) st k) := by
  refine WT_code (SatM_draw (WT.mono ?_ _ h))
  rintro e s (⟨rfl, hr, hw⟩ | ⟨d, rfl, s', hw, hq⟩)
  · exact ⟨S, hw, h2 hr⟩
  · exact ⟨s', hw, hq⟩

def setX (x : LX) (l v : Int) : LX := { x with f := setF x.f l v, ls := x.ls.set (0 + l.toNat) [I v] }

theorem Inv.setL {c : Code} {b : Body} {x : LX} (h : Inv c b x) (l v : Int) : Inv c b (setX x l v) := by
  refine ⟨h.pre, h.len, h.le, ?_, h.deep, h.pc0, h.pc1, h.sp0, h.sp1, ?_, h.kids, h.ins, h.funs, h.cells⟩
  · simp [setX, setF, h.loc, rows, List.map_set]
  · have := h.locs; simpa [setX, setF] using this

set_option maxRecDepth 100000 in
set_option maxHeartbeats 1000000 in
theorem i_set (c : Code) (b : Body) (f0 : Frame) (x : LX) (i : Ins) (hx : Inv c b x) :
    SatC Try.prog 43 [.ptr 5 0, .agg (insV i)] (LH c b f0 x noAsk i) 19 (Done c b f0 i (sSet x.f i)) := by
  have h6 := hx.len
  refine SatC_byW is43 rfl ?_
  refine WT_sub (wait_ok c b f0 x i i.a hx) ?_
  rintro _ _ _ ⟨rfl, ⟨hb, rfl, rfl⟩ | ⟨hb, ha, rfl, rfl⟩ | ⟨hb, ha, rfl, rfl⟩⟩
  · have hs : sSet x.f i = none := by simp [sSet, hb]
    refine WT_done ⟨⟨[], LH c b f0 x noAsk i, 19, [], 19⟩, .inr ?_, rfl, ?_⟩
    · exact Weak.eqs [] (by kernel_rfl) (by kernel_rfl) (by kernel_rfl) (by kernel_rfl) (by kernel_rfl) (by kernel_rfl) (by kernel_rfl) (by kernel_rfl) (by kernel_rfl) (by kernel_rfl)
    · rw [hs]; exact ⟨rfl, rfl, _, _, rfl⟩
  · have hs : sSet x.f i = some (x.f, { ask0 with kind := 5 }) := by simp [sSet, hb, ha]
    refine WT_t rfl ?_
    refine WT_done ⟨⟨[], LH c b f0 x qSync i, 19, [], 19⟩, .inr ?_, rfl, [], rfl, ?_⟩
    · exact Weak.eqs [] (by kernel_rfl) (by kernel_rfl) (by kernel_rfl) (by kernel_rfl) (by kernel_rfl) (by kernel_rfl) (by kernel_rfl) (by kernel_rfl) (by kernel_rfl) (by kernel_rfl)
    · rw [hs]; exact ⟨rfl, rfl, x, rfl, hx.mid, rfl⟩
  · have hb' : 0 ≤ i.a ∧ i.a < x.f.loc.length := by simpa [below] using hb
    have hlt : i.a.toNat < x.f.loc.length := by omega
    refine WT_f rfl ?_
    have hxl : x.ls.length = x.f.loc.length := by rw [hx.loc]; simp [rows]
    refine WT_drawP (x.f.stack ≠ []) ⟨[(0, .ptr 5 0)], H19 c b f0 { poppedF x with ls := x.ls.set (0 + i.a.toNat) [I (topF x.f)] } noAsk i, 20, [], 19⟩ ?_ ?_
    · refine WT_sub (topH c b f0 x i hx) ?_
      rintro _ _ _ ⟨rfl, ⟨hn, rfl, rfl⟩ | ⟨hn, rfl, rfl⟩⟩
      · have he : x.f.stack ≠ [] := by intro h; rw [h6, h] at hn; simp at hn
        iterate 7 (refine WT_same (by kernel_rfl) ?_)
        refine WT_t rfl ?_
        refine WT_t (by simp; omega) ?_
        refine WT_t rfl ?_
        refine WT_elem [I (x.f.loc.getD i.a.toNat 0)] (by show x.ls[0 + i.a.toNat]? = _; rw [hx.loc]; exact row_at hlt (by omega)) ?_
        refine WT_done (.inl ⟨rfl, he, ?_⟩)
        exact Weak.eqs [] (by kernel_rfl) (by kernel_rfl) (by kernel_rfl) (by kernel_rfl) (by kernel_rfl) (by kernel_rfl) (by kernel_rfl) (by kernel_rfl) (by kernel_rfl) (by kernel_rfl)
      · have he : x.f.stack = [] := by rw [← len_top hx]; exact hn
        have hs : sSet x.f i = none := by simp [sSet, hb, ha, he]
        refine WT_done (.inr ⟨_, rfl, ⟨[], LH c b f0 x noAsk i, 19, [], 19⟩, ?_, ?_⟩)
        · exact Weak.eqs [] (by kernel_rfl) (by kernel_rfl) (by kernel_rfl) (by kernel_rfl) (by kernel_rfl) (by kernel_rfl) (by kernel_rfl) (by kernel_rfl) (by kernel_rfl) (by kernel_rfl)
        · refine WT_done ⟨_, .inl rfl, rfl, ?_⟩
          rw [hs]; exact ⟨rfl, rfl, _, _, rfl⟩
    · intro he
      have hh : H19 c b f0 { poppedF x with ls := x.ls.set (0 + i.a.toNat) [I (topF x.f)] } noAsk i = H19 c b f0 (setX (poppedF x) i.a (topF x.f)) noAsk i := by simp [H19, LH, loopHeap, frV, setX, setF, poppedF, popped]
      rw [hh]
      have hs : sSet x.f i = some (next (setF (popF x.f) i.a (topF x.f)), ask0) := by simp [sSet, hb, ha, he]
      have hn : 0 < x.n := by rw [h6]; exact List.length_pos_iff.2 he
      have hy := (hx.pop hn).setL i.a (topF x.f)
      refine WT_sub (nextH c b f0 (setX (poppedF x) i.a (topF x.f)) i hy.pc0 hy.pc1 hy.sp0 hy.sp1) ?_
      rintro _ _ _ ⟨rfl, rfl, rfl⟩
      refine WT_done ⟨⟨[], LH c b f0 (passed (setX (poppedF x) i.a (topF x.f))) noAsk i, 19, [], 19⟩, .inr ?_, rfl, [], rfl, ?_⟩
      · exact Weak.eqs [] (by kernel_rfl) (by kernel_rfl) (by kernel_rfl) (by kernel_rfl) (by kernel_rfl) (by kernel_rfl) (by kernel_rfl) (by kernel_rfl) (by kernel_rfl) (by kernel_rfl)
      · rw [hs]; exact ⟨rfl, rfl, _, rfl, Mid.go hy _ (by have := hy.pc0; omega) (by have := hy.pc1; omega), rfl⟩

end Uw.Try

/- What is called. -/
set_option linter.unusedVariables false
namespace Uw.Try
open Go Uw Go.Proofs

def calledS (c : Code) (op : Int) : Int × Int :=
  if op = 1 ∨ op = 3 then (c.maps, 1) else if op = 2 then (c.maps, 2) else if op = 4 then (c.stacks, 1) else if op = 5 then (c.stacks, 0) else if op = 6 then (c.chans, 1) else if op = 7 then (c.chans, 0) else (0, 0)

set_option maxRecDepth 100000 in
set_option maxHeartbeats 1000000 in
theorem called_ok (c : Code) (b : Body) (f0 : Frame) (x : LX) (i : Ins) (op : Int) :
    SatC Try.prog 68 [.ptr 5 0, .d (I op)] (H19 c b f0 x noAsk i) 20 (fun r h' nx' => nx' = 20 ∧ h' = H19 c b f0 x noAsk i ∧ r = .val (.tuple [.d (I (calledS c op).1), .d (I (calledS c op).2)])) := by
  refine SatC_byW is68 rfl ?_
  have fin : ∀ (o t : Int) (st : St), calledS c op = (o, t) → Weak st ⟨[(4, .d (I o)), (5, .d (I t))], H19 c b f0 x noAsk i, 20, [], 20⟩ →
      ∃ st', (st' = st ∨ Weak st st') ∧ InlQ m68.res (fun r h' nx' => nx' = 20 ∧ h' = H19 c b f0 x noAsk i ∧ r = .val (.tuple [.d (I (calledS c op).1), .d (I (calledS c op).2)])) .ret st' := by
    intro o t st hc hw
    exact ⟨_, .inr hw, rfl, _, rfl, rfl, rfl, by rw [hc]; rfl⟩
  refine WT_test (fun h1 => ?_) (fun h1 => ?_)
  · refine WT_t h1 ?_
    simp at h1
    refine WT_done (fin c.maps 1 _ (by simp [calledS, h1]) ?_)
    exact Weak.eqs [] (by kernel_rfl) (by kernel_rfl) (by kernel_rfl) (by kernel_rfl) (by kernel_rfl) (by kernel_rfl) (by kernel_rfl) (by kernel_rfl) (by kernel_rfl) (by kernel_rfl)
  simp at h1
  refine WT_test (fun h3 => ?_) (fun h3 => ?_)
  · simp at h3
    refine WT_done (fin c.maps 1 _ (by simp [calledS, h3]) ?_)
    exact Weak.eqs [] (by kernel_rfl) (by kernel_rfl) (by kernel_rfl) (by kernel_rfl) (by kernel_rfl) (by kernel_rfl) (by kernel_rfl) (by kernel_rfl) (by kernel_rfl) (by kernel_rfl)
  simp at h3
  refine WT_test (fun h2 => ?_) (fun h2 => ?_)
  · simp at h2
    refine WT_done (fin c.maps 2 _ (by simp [calledS, h2]) ?_)
    exact Weak.eqs [] (by kernel_rfl) (by kernel_rfl) (by kernel_rfl) (by kernel_rfl) (by kernel_rfl) (by kernel_rfl) (by kernel_rfl) (by kernel_rfl) (by kernel_rfl) (by kernel_rfl)
  simp at h2
  refine WT_test (fun h4 => ?_) (fun h4 => ?_)
  · simp at h4
    refine WT_done (fin c.stacks 1 _ (by simp [calledS, h4]) ?_)
    exact Weak.eqs [] (by kernel_rfl) (by kernel_rfl) (by kernel_rfl) (by kernel_rfl) (by kernel_rfl) (by kernel_rfl) (by kernel_rfl) (by kernel_rfl) (by kernel_rfl) (by kernel_rfl)
  simp at h4
  refine WT_test (fun h5 => ?_) (fun h5 => ?_)
  · simp at h5
    refine WT_done (fin c.stacks 0 _ (by simp [calledS, h5]) ?_)
    exact Weak.eqs [] (by kernel_rfl) (by kernel_rfl) (by kernel_rfl) (by kernel_rfl) (by kernel_rfl) (by kernel_rfl) (by kernel_rfl) (by kernel_rfl) (by kernel_rfl) (by kernel_rfl)
  simp at h5
  refine WT_test (fun h6 => ?_) (fun h6 => ?_)
  · simp at h6
    refine WT_done (fin c.chans 1 _ (by simp [calledS, h6]) ?_)
    exact Weak.eqs [] (by kernel_rfl) (by kernel_rfl) (by kernel_rfl) (by kernel_rfl) (by kernel_rfl) (by kernel_rfl) (by kernel_rfl) (by kernel_rfl) (by kernel_rfl) (by kernel_rfl)
  simp at h6
  refine WT_test (fun h7 => ?_) (fun h7 => ?_)
  · simp at h7
    refine WT_done (fin c.chans 0 _ (by simp [calledS, h7]) ?_)
    exact Weak.eqs [] (by kernel_rfl) (by kernel_rfl) (by kernel_rfl) (by kernel_rfl) (by kernel_rfl) (by kernel_rfl) (by kernel_rfl) (by kernel_rfl) (by kernel_rfl) (by kernel_rfl)
  simp at h7
  refine WT_done (fin 0 0 _ (by simp [calledS, h1, h3, h2, h4, h5, h6, h7]) ?_)
  exact Weak.eqs [] (by kernel_rfl) (by kernel_rfl) (by kernel_rfl) (by kernel_rfl) (by kernel_rfl) (by kernel_rfl) (by kernel_rfl) (by kernel_rfl) (by kernel_rfl) (by kernel_rfl)

end Uw.Try

set_option linter.unusedVariables false
namespace Uw.Try
open Go Uw Go.Proofs

theorem called_takes (c : Code) (op : Int) : 0 ≤ (calledS c op).2 ∧ (calledS c op).2 ≤ 2 := by
  unfold calledS; repeat' split
  all_goals simp

def dropF (f : Frame) (k : Nat) : Frame := { f with stack := f.stack.take (f.stack.length - k) }
def lastF (f : Frame) (k : Nat) : List Int := f.stack.drop (f.stack.length - k)
def keyed (op a : Int) : Int := if op = 1 ∨ op = 2 ∨ op = 3 then keyS a else a
def sCall (c : Code) (f : Frame) (i : Ins) : Option (Frame × Ask) :=
  if below i.b (calledS c i.a).1 = true ∧ i.c = (calledS c i.a).2 ∧ (calledS c i.a).2.toNat ≤ f.stack.length then
    some (next (dropF f (calledS c i.a).2.toNat), { ask0 with kind := 3, op := (i.a, i.b, keyed i.a ((lastF f (calledS c i.a).2.toNat ++ [0, 0]).getD 0 0), (lastF f (calledS c i.a).2.toNat ++ [0, 0]).getD 1 0) })
  else none

theorem went_row {c : Code} {b : Body} {x : LX} (h : Inv c b x) {T : Int} (hk : T ≤ x.n) (h0 : 0 ≤ T) : (x.xs.drop (0 + ((x.n : Int) - T).toNat)).take ((x.n : Int) - ((x.n : Int) - T)).toNat = rows (lastF x.f T.toNat) := by
  have h1 := h.len; have h2 := h.le
  have e : ((x.n : Int) - ((x.n : Int) - T)).toNat = x.n - (0 + ((x.n : Int) - T).toNat) := by omega
  rw [e, ← List.drop_take, h.pre, rows, rows, lastF, List.map_drop]
  congr 1; omega

theorem went_at {c : Code} {b : Body} {x : LX} (h : Inv c b x) {T : Int} (hk : T ≤ x.n) (h0 : 0 ≤ T) (k : Nat) (h2 : k < 2) {m : Nat} (hm : m = k) :
    (((x.xs.drop (0 + ((x.n : Int) - T).toNat)).take ((x.n : Int) - ((x.n : Int) - T)).toNat).take ((x.xs.drop (0 + ((x.n : Int) - T).toNat)).take ((x.n : Int) - ((x.n : Int) - T)).toNat).length ++ ((List.replicate 2 [Dat.int IntKind.i64 0]).set 0 [Dat.int IntKind.i64 0]).set 1 [Dat.int IntKind.i64 0])[m]? = some [I ((lastF x.f T.toNat ++ [0, 0]).getD k 0)] := by
  rw [List.take_length, went_row h hk h0]
  show (rows (lastF x.f T.toNat) ++ rows [0, 0])[m]? = _
  rw [← rows_append]
  exact row_at (by simp; omega) hm

theorem Inv.drop {c : Code} {b : Body} {x : LX} (h : Inv c b x) (T : Int) (h0 : 0 ≤ T) (hk : T ≤ x.n) : Inv c b { x with n := ((x.n : Int) - T - 0).toNat, f := dropF x.f T.toNat } := by
  have h1 := h.len; have h2 := h.le; have h3 := h.deep
  have e : ((x.n : Int) - T - 0).toNat = x.n - T.toNat := by omega
  refine ⟨?_, ?_, ?_, h.loc, ?_, h.pc0, h.pc1, h.sp0, h.sp1, h.locs, h.kids, h.ins, h.funs, h.cells⟩
  · simp only [dropF, e]
    have : x.xs.take (x.n - T.toNat) = (x.xs.take x.n).take (x.n - T.toNat) := by rw [List.take_take, Nat.min_eq_left (by omega)]
    rw [this, h.pre, rows, rows, List.map_take, h1]
  · simp [dropF, e]; omega
  · simp only [e]; omega
  · simp [dropF]; omega

set_option maxRecDepth 100000 in
set_option maxHeartbeats 1000000 in
theorem i_call (c : Code) (b : Body) (f0 : Frame) (x : LX) (i : Ins) (hx : Inv c b x) :
    SatC Try.prog 53 [.ptr 5 0, .agg (insV i)] (LH c b f0 x noAsk i) 19 (Done c b f0 i (sCall c x.f i)) := by
  have h5 := hx.deep; have h6 := hx.len; have h7 := hx.le
  have g1 := hx.pc0; have g2 := hx.pc1; have g3 := hx.sp0; have g4 := hx.sp1
  have ht := called_takes c i.a
  refine SatC_byW is53 rfl ?_
  refine WT_sub (called_ok c b f0 x i i.a) ?_
  rintro _ _ _ ⟨rfl, rfl, rfl⟩
  generalize hT : (calledS c i.a).2 = T at *
  generalize hO : (calledS c i.a).1 = O at *
  refine WT_call _ (s25 _ _) ?_
  refine WT_test (fun hb => ?_) (fun hb => ?_)
  · refine WT_t (by simpa using hb) ?_
    refine WT_sub (need_ok _ _ _ _) ?_
    rintro _ _ _ ⟨rfl, rfl, ⟨hc, rfl⟩ | ⟨hc, rfl⟩⟩
    · refine WT_inl is67 rfl ?_
      refine WT_v ?_
      refine WT_sub (need_ok _ _ _ _) ?_
      rintro _ _ _ ⟨rfl, rfl, ⟨hk, rfl⟩ | ⟨hk, rfl⟩⟩
      · simp at hk
        refine WT_v ?_
        refine WT_t (by simp [inR]; omega) ?_
        refine WT_v ?_
        refine WT_t (by simp; omega) ?_
        refine WT_v ?_
        refine WT_t (by simp; omega) ?_
        refine WT_v ?_
        refine WT_t (by simp; omega) ?_
        refine WT_iret rfl rfl ?_
        refine WT_t rfl ?_
        refine WT_t (by simp; omega) ?_
        refine WT_draw ⟨[(0, .ptr 5 0), (3, .ptr 19 0), (7, .ptr 20 0)], (20, .var [.d (I i.a), .d (I i.b), .d (I ((lastF x.f T.toNat ++ [0, 0]).getD 0 0)), .d (I ((lastF x.f T.toNat ++ [0, 0]).getD 1 0))]) :: H19 c b f0 { x with n := ((x.n : Int) - T - 0).toNat } noAsk i, 21, [], 19⟩ ?_ ?_
        · refine WT_t rfl ?_
          refine WT_t (by simp; omega) ?_
          refine WT_t rfl ?_
          refine WT_elem [I ((lastF x.f T.toNat ++ [0, 0]).getD 0 0)] (went_at hx hk ht.1 0 (by omega) (by decide)) ?_
          refine WT_t rfl ?_
          refine WT_t (by simp; omega) ?_
          refine WT_t rfl ?_
          refine WT_elem [I ((lastF x.f T.toNat ++ [0, 0]).getD 1 0)] (went_at hx hk ht.1 1 (by omega) (by decide)) ?_
          iterate 5 (refine WT_same (by kernel_rfl) ?_)
          refine WT_t rfl ?_
          refine WT_t (by simp; omega) ?_
          refine WT_same (by kernel_rfl) ?_
          refine WT_t rfl ?_
          refine WT_elem [I ((lastF x.f T.toNat ++ [0, 0]).getD 0 0)] (went_at hx hk ht.1 0 (by omega) (by decide)) ?_
          refine WT_same (by kernel_rfl) ?_
          refine WT_same (by kernel_rfl) ?_
          refine WT_t rfl ?_
          refine WT_t (by simp; omega) ?_
          refine WT_same (by kernel_rfl) ?_
          refine WT_t rfl ?_
          refine WT_elem [I ((lastF x.f T.toNat ++ [0, 0]).getD 1 0)] (went_at hx hk ht.1 1 (by omega) (by decide)) ?_
          refine WT_same (by kernel_rfl) ?_
          refine WT_same (by kernel_rfl) ?_
          refine WT_done (.inl ⟨rfl, ?_⟩)
          exact Weak.eqs [(20, 21)] (by kernel_rfl) (by kernel_rfl) (by kernel_rfl) (by kernel_rfl) (by kernel_rfl) (by kernel_rfl) (by kernel_rfl) (by kernel_rfl) (by kernel_rfl) (by kernel_rfl)
        · refine WT_test (fun k1 => ?_) (fun k1 => ?_)
          · refine WT_t k1 ?_
            refine WT_call _ (s16 _) ?_
            refine WT_inl is63 rfl ?_
            refine WT_t (by simp [inR]; omega) ?_
            refine WT_inl is70 rfl ?_
            refine WT_t (by simp [inR]; omega) ?_
            refine WT_iend rfl rfl ?_
            refine WT_iend rfl rfl ?_
            refine WT_done ⟨⟨[], LH c b f0 (passed { x with n := ((x.n : Int) - T - 0).toNat, f := dropF x.f T.toNat }) (askV { ask0 with kind := 3, op := (i.a, i.b, keyS ((lastF x.f T.toNat ++ [0, 0]).getD 0 0), (lastF x.f T.toNat ++ [0, 0]).getD 1 0) }) i, 19, [], 19⟩, .inr ?_, rfl, [], rfl, ?_⟩
            · exact Weak.eqs [] (by kernel_rfl) (by kernel_rfl) (by kernel_rfl) (by kernel_rfl) (by kernel_rfl) (by kernel_rfl) (by kernel_rfl) (by kernel_rfl) (by kernel_rfl) (by kernel_rfl)
            · have e : keyed i.a = keyS := by simp at k1; funext a; simp [keyed, k1]
              have hs : sCall c x.f i = some (next (dropF x.f T.toNat), { ask0 with kind := 3, op := (i.a, i.b, keyed i.a ((lastF x.f T.toNat ++ [0, 0]).getD 0 0), (lastF x.f T.toNat ++ [0, 0]).getD 1 0) }) := by
                simp only [sCall, hT, hO]; rw [if_pos ⟨by simpa [below] using hb, by simpa using hc, by omega⟩]
              have hy := hx.drop T ht.1 hk
              rw [hs, e]; exact ⟨rfl, rfl, _, rfl, Mid.go hy _ (by have := hy.pc0; omega) (by have := hy.pc1; omega), rfl⟩
          refine WT_test (fun k2 => ?_) (fun k2 => ?_)
          · refine WT_t k2 ?_
            refine WT_call _ (s16 _) ?_
            refine WT_inl is63 rfl ?_
            refine WT_t (by simp [inR]; omega) ?_
            refine WT_inl is70 rfl ?_
            refine WT_t (by simp [inR]; omega) ?_
            refine WT_iend rfl rfl ?_
            refine WT_iend rfl rfl ?_
            refine WT_done ⟨⟨[], LH c b f0 (passed { x with n := ((x.n : Int) - T - 0).toNat, f := dropF x.f T.toNat }) (askV { ask0 with kind := 3, op := (i.a, i.b, keyS ((lastF x.f T.toNat ++ [0, 0]).getD 0 0), (lastF x.f T.toNat ++ [0, 0]).getD 1 0) }) i, 19, [], 19⟩, .inr ?_, rfl, [], rfl, ?_⟩
            · exact Weak.eqs [] (by kernel_rfl) (by kernel_rfl) (by kernel_rfl) (by kernel_rfl) (by kernel_rfl) (by kernel_rfl) (by kernel_rfl) (by kernel_rfl) (by kernel_rfl) (by kernel_rfl)
            · have e : keyed i.a = keyS := by simp at k2; funext a; simp [keyed, k2]
              have hs : sCall c x.f i = some (next (dropF x.f T.toNat), { ask0 with kind := 3, op := (i.a, i.b, keyed i.a ((lastF x.f T.toNat ++ [0, 0]).getD 0 0), (lastF x.f T.toNat ++ [0, 0]).getD 1 0) }) := by
                simp only [sCall, hT, hO]; rw [if_pos ⟨by simpa [below] using hb, by simpa using hc, by omega⟩]
              have hy := hx.drop T ht.1 hk
              rw [hs, e]; exact ⟨rfl, rfl, _, rfl, Mid.go hy _ (by have := hy.pc0; omega) (by have := hy.pc1; omega), rfl⟩
          refine WT_test (fun k3 => ?_) (fun k3 => ?_)
          · refine WT_call _ (s16 _) ?_
            refine WT_inl is63 rfl ?_
            refine WT_t (by simp [inR]; omega) ?_
            refine WT_inl is70 rfl ?_
            refine WT_t (by simp [inR]; omega) ?_
            refine WT_iend rfl rfl ?_
            refine WT_iend rfl rfl ?_
            refine WT_done ⟨⟨[], LH c b f0 (passed { x with n := ((x.n : Int) - T - 0).toNat, f := dropF x.f T.toNat }) (askV { ask0 with kind := 3, op := (i.a, i.b, keyS ((lastF x.f T.toNat ++ [0, 0]).getD 0 0), (lastF x.f T.toNat ++ [0, 0]).getD 1 0) }) i, 19, [], 19⟩, .inr ?_, rfl, [], rfl, ?_⟩
            · exact Weak.eqs [] (by kernel_rfl) (by kernel_rfl) (by kernel_rfl) (by kernel_rfl) (by kernel_rfl) (by kernel_rfl) (by kernel_rfl) (by kernel_rfl) (by kernel_rfl) (by kernel_rfl)
            · have e : keyed i.a = keyS := by simp at k3; funext a; simp [keyed, k3]
              have hs : sCall c x.f i = some (next (dropF x.f T.toNat), { ask0 with kind := 3, op := (i.a, i.b, keyed i.a ((lastF x.f T.toNat ++ [0, 0]).getD 0 0), (lastF x.f T.toNat ++ [0, 0]).getD 1 0) }) := by
                simp only [sCall, hT, hO]; rw [if_pos ⟨by simpa [below] using hb, by simpa using hc, by omega⟩]
              have hy := hx.drop T ht.1 hk
              rw [hs, e]; exact ⟨rfl, rfl, _, rfl, Mid.go hy _ (by have := hy.pc0; omega) (by have := hy.pc1; omega), rfl⟩
          · skip
            refine WT_inl is63 rfl ?_
            refine WT_t (by simp [inR]; omega) ?_
            refine WT_inl is70 rfl ?_
            refine WT_t (by simp [inR]; omega) ?_
            refine WT_iend rfl rfl ?_
            refine WT_iend rfl rfl ?_
            refine WT_done ⟨⟨[], LH c b f0 (passed { x with n := ((x.n : Int) - T - 0).toNat, f := dropF x.f T.toNat }) (askV { ask0 with kind := 3, op := (i.a, i.b, (lastF x.f T.toNat ++ [0, 0]).getD 0 0, (lastF x.f T.toNat ++ [0, 0]).getD 1 0) }) i, 19, [], 19⟩, .inr ?_, rfl, [], rfl, ?_⟩
            · exact Weak.eqs [] (by kernel_rfl) (by kernel_rfl) (by kernel_rfl) (by kernel_rfl) (by kernel_rfl) (by kernel_rfl) (by kernel_rfl) (by kernel_rfl) (by kernel_rfl) (by kernel_rfl)
            · have e : keyed i.a = id := by simp at k1 k2 k3; funext a; simp [keyed, k1, k2, k3]
              have hs : sCall c x.f i = some (next (dropF x.f T.toNat), { ask0 with kind := 3, op := (i.a, i.b, keyed i.a ((lastF x.f T.toNat ++ [0, 0]).getD 0 0), (lastF x.f T.toNat ++ [0, 0]).getD 1 0) }) := by
                simp only [sCall, hT, hO]; rw [if_pos ⟨by simpa [below] using hb, by simpa using hc, by omega⟩]
              have hy := hx.drop T ht.1 hk
              rw [hs, e]; exact ⟨rfl, rfl, _, rfl, Mid.go hy _ (by have := hy.pc0; omega) (by have := hy.pc1; omega), rfl⟩
      · have hs : sCall c x.f i = none := by simp at hk; simp only [sCall, hT, hO]; rw [if_neg (by rintro ⟨-, -, h⟩; omega)]
        refine WT_ipan rfl ?_
        refine WT_done ⟨⟨[], LH c b f0 x noAsk i, 19, [], 19⟩, .inr ?_, rfl, ?_⟩
        · exact Weak.eqs [] (by kernel_rfl) (by kernel_rfl) (by kernel_rfl) (by kernel_rfl) (by kernel_rfl) (by kernel_rfl) (by kernel_rfl) (by kernel_rfl) (by kernel_rfl) (by kernel_rfl)
        · rw [hs]; exact ⟨rfl, rfl, _, _, rfl⟩
    · have hs : sCall c x.f i = none := by simp at hc; simp only [sCall, hT, hO]; rw [if_neg (by rintro ⟨-, h, -⟩; exact hc h)]
      refine WT_done ⟨⟨[], LH c b f0 x noAsk i, 19, [], 19⟩, .inr ?_, rfl, ?_⟩
      · exact Weak.eqs [] (by kernel_rfl) (by kernel_rfl) (by kernel_rfl) (by kernel_rfl) (by kernel_rfl) (by kernel_rfl) (by kernel_rfl) (by kernel_rfl) (by kernel_rfl) (by kernel_rfl)
      · rw [hs]; exact ⟨rfl, rfl, _, _, rfl⟩
  · refine WT_f (by simpa using hb) ?_
    have hs : sCall c x.f i = none := by simp only [sCall, hT, hO]; rw [if_neg (by rintro ⟨h, -, -⟩; simp [below] at h; simp at hb; omega)]
    refine WT_sub (need_ok _ _ _ _) ?_
    rintro _ _ _ ⟨rfl, rfl, ⟨hc, rfl⟩ | ⟨hc, rfl⟩⟩
    · simp at hc
    · refine WT_done ⟨⟨[], LH c b f0 x noAsk i, 19, [], 19⟩, .inr ?_, rfl, ?_⟩
      · exact Weak.eqs [] (by kernel_rfl) (by kernel_rfl) (by kernel_rfl) (by kernel_rfl) (by kernel_rfl) (by kernel_rfl) (by kernel_rfl) (by kernel_rfl) (by kernel_rfl) (by kernel_rfl)
      · rw [hs]; exact ⟨rfl, rfl, _, _, rfl⟩

end Uw.Try

/- The step spawn. -/
set_option linter.unusedVariables false
namespace Uw.Try
open Go Uw Go.Proofs

def argsOf (c : Code) (k : Int) : Int := (c.funs.getD k.toNat ⟨0, 0, []⟩).args
def sSpawn (c : Code) (f : Frame) (i : Ins) : Option (Frame × Ask) :=
  if below i.a c.funs.length = true ∧ dest i.c f.loc.length = true ∧ 0 ≤ i.b ∧ i.b = argsOf c i.a ∧ i.b.toNat ≤ f.stack.length then
    some (next (dropF f i.b.toNat), ⟨4, i.a, i.c, (0, 0, 0, 0), lastF f i.b.toNat⟩)
  else none

/-- What is asked, with arguments that lie in a row. -/
def askR (a : Ask) (v : V) : List V := [.d (I a.kind), .d (I a.a), .d (I a.b), .d (I a.op.1), .d (I a.op.2.1), .d (I a.op.2.2.1), .d (I a.op.2.2.2), v]

def DoneA (c : Code) (b : Body) (f0 : Frame) (i : Ins) (s : Option (Frame × Ask)) (r : Res) (h' : Heap) (nx' : Nat) : Prop :=
  match s with
  | none => nx' = 19 ∧ r = .pan errArg ∧ ∃ y ask, h' = LH c b f0 y ask i
  | some (g, a) => nx' = 20 ∧ r = .val (.tuple []) ∧ ∃ y, y.f = g ∧ Mid c b y ∧ h' = (19, .mt 1 0 (rows a.args)) :: LH c b f0 y (askR a (.ref 19 0 0 a.args.length)) i

set_option maxRecDepth 100000 in
set_option maxHeartbeats 1000000 in
theorem i_spawn (c : Code) (b : Body) (f0 : Frame) (x : LX) (i : Ins) (hx : Inv c b x) :
    SatC Try.prog 55 [.ptr 5 0, .agg (insV i)] (LH c b f0 x noAsk i) 19 (DoneA c b f0 i (sSpawn c x.f i)) := by
  have h5 := hx.deep; have h6 := hx.len; have h7 := hx.le
  have g1 := hx.pc0; have g2 := hx.pc1; have g3 := hx.sp0; have g4 := hx.sp1
  refine SatC_byW is55 rfl ?_
  refine WT_call _ (s25 _ _) ?_
  refine WT_test (fun ha => ?_) (fun ha => ?_)
  · refine WT_v ?_
    refine WT_call _ (s37 _ _) ?_
    refine WT_t (by simp) ?_
    refine WT_sub (need_ok _ _ _ _) ?_
    rintro _ _ _ ⟨rfl, rfl, ⟨hd, rfl⟩ | ⟨hd, rfl⟩⟩
    · simp at ha
      refine WT_test (fun h0 => ?_) (fun h0 => ?_)
      · refine WT_t (by simp; omega) ?_
        refine WT_elem (bodyD (c.funs.getD i.a.toNat ⟨0, 0, []⟩)) (by simp [show i.a.toNat < c.funs.length by omega]) ?_
        refine WT_t (by simp) ?_
        refine WT_sub (need_ok _ _ _ _) ?_
        rintro _ _ _ ⟨rfl, rfl, ⟨hq, rfl⟩ | ⟨hq, rfl⟩⟩
        · simp at hq h0
          refine WT_inl is67 rfl ?_
          refine WT_v ?_
          refine WT_sub (need_ok _ _ _ _) ?_
          rintro _ _ _ ⟨rfl, rfl, ⟨hk, rfl⟩ | ⟨hk, rfl⟩⟩
          · simp at hk
            refine WT_v ?_
            refine WT_t (by simp [inR]; omega) ?_
            refine WT_v ?_
            refine WT_t (by simp; omega) ?_
            refine WT_v ?_
            refine WT_t (by simp; omega) ?_
            refine WT_v ?_
            refine WT_t (by simp; omega) ?_
            refine WT_iret rfl rfl ?_
            refine WT_inl is63 rfl ?_
            refine WT_t (by simp [inR]; omega) ?_
            refine WT_inl is70 rfl ?_
            refine WT_t (by simp [inR]; omega) ?_
            refine WT_iend rfl rfl ?_
            refine WT_iend rfl rfl ?_
            have hs : sSpawn c x.f i = some (next (dropF x.f i.b.toNat), ⟨4, i.a, i.c, (0, 0, 0, 0), lastF x.f i.b.toNat⟩) := by
              simp only [sSpawn]; rw [if_pos ⟨by simpa [below] using ha, hd, h0, hq, by omega⟩]
            have hy := hx.drop i.b h0 hk
            refine WT_done ⟨⟨[], (19, .mt 1 0 ((x.xs.drop (0 + ((x.n : Int) - i.b).toNat)).take ((x.n : Int) - ((x.n : Int) - i.b)).toNat)) :: LH c b f0 (passed { x with n := ((x.n : Int) - i.b - 0).toNat, f := dropF x.f i.b.toNat }) (askR ⟨4, i.a, i.c, (0, 0, 0, 0), lastF x.f i.b.toNat⟩ (.ref 19 0 0 ((x.xs.drop (0 + ((x.n : Int) - i.b).toNat)).take ((x.n : Int) - ((x.n : Int) - i.b)).toNat).length)) i, 20, [], 19⟩, .inr ?_, rfl, [], rfl, ?_⟩
            · exact Weak.eqs [(19, 20)] (by kernel_rfl) (by kernel_rfl) (by kernel_rfl) (by kernel_rfl) (by kernel_rfl) (by kernel_rfl) (by kernel_rfl) (by kernel_rfl) (by kernel_rfl) (by kernel_rfl)
            · rw [hs, went_row hx hk h0]
              rw [show (rows (lastF x.f i.b.toNat)).length = (lastF x.f i.b.toNat).length by simp [rows]]
              exact ⟨rfl, rfl, _, rfl, Mid.go hy (x.f.pc + 1) (by omega) (by omega), rfl⟩
          · have hs : sSpawn c x.f i = none := by simp at hk; simp only [sSpawn]; rw [if_neg (by rintro ⟨-, -, -, -, h⟩; omega)]
            refine WT_ipan rfl ?_
            refine WT_done ⟨⟨[], LH c b f0 x noAsk i, 19, [], 19⟩, .inr ?_, rfl, ?_⟩
            · exact Weak.eqs [] (by kernel_rfl) (by kernel_rfl) (by kernel_rfl) (by kernel_rfl) (by kernel_rfl) (by kernel_rfl) (by kernel_rfl) (by kernel_rfl) (by kernel_rfl) (by kernel_rfl)
            · rw [hs]; exact ⟨rfl, rfl, _, _, rfl⟩
        · have hs : sSpawn c x.f i = none := by simp at hq; simp only [sSpawn]; rw [if_neg (by rintro ⟨-, -, -, h, -⟩; exact hq h)]
          refine WT_done ⟨⟨[], LH c b f0 x noAsk i, 19, [], 19⟩, .inr ?_, rfl, ?_⟩
          · exact Weak.eqs [] (by kernel_rfl) (by kernel_rfl) (by kernel_rfl) (by kernel_rfl) (by kernel_rfl) (by kernel_rfl) (by kernel_rfl) (by kernel_rfl) (by kernel_rfl) (by kernel_rfl)
          · rw [hs]; exact ⟨rfl, rfl, _, _, rfl⟩
      · have hs : sSpawn c x.f i = none := by simp at h0; simp only [sSpawn]; rw [if_neg (by rintro ⟨-, -, h, -, -⟩; omega)]
        refine WT_f (by simp) ?_
        refine WT_sub (need_ok _ _ _ _) ?_
        rintro _ _ _ ⟨rfl, rfl, ⟨hq, rfl⟩ | ⟨hq, rfl⟩⟩
        · simp at hq
        · skip
          refine WT_done ⟨⟨[], LH c b f0 x noAsk i, 19, [], 19⟩, .inr ?_, rfl, ?_⟩
          · exact Weak.eqs [] (by kernel_rfl) (by kernel_rfl) (by kernel_rfl) (by kernel_rfl) (by kernel_rfl) (by kernel_rfl) (by kernel_rfl) (by kernel_rfl) (by kernel_rfl) (by kernel_rfl)
          · rw [hs]; exact ⟨rfl, rfl, _, _, rfl⟩
    · have hs : sSpawn c x.f i = none := by simp only [sSpawn]; rw [if_neg (by rintro ⟨-, h, -, -, -⟩; rw [hd] at h; simp at h)]
      refine WT_done ⟨⟨[], LH c b f0 x noAsk i, 19, [], 19⟩, .inr ?_, rfl, ?_⟩
      · exact Weak.eqs [] (by kernel_rfl) (by kernel_rfl) (by kernel_rfl) (by kernel_rfl) (by kernel_rfl) (by kernel_rfl) (by kernel_rfl) (by kernel_rfl) (by kernel_rfl) (by kernel_rfl)
      · rw [hs]; exact ⟨rfl, rfl, _, _, rfl⟩
  · have hs : sSpawn c x.f i = none := by simp only [sSpawn]; rw [if_neg (by rintro ⟨h, -, -, -, -⟩; simp [below] at h; simp at ha; omega)]
    refine WT_f (by simp) ?_
    refine WT_sub (need_ok _ _ _ _) ?_
    rintro _ _ _ ⟨rfl, rfl, ⟨hq, rfl⟩ | ⟨hq, rfl⟩⟩
    · simp at hq
    · skip
      refine WT_done ⟨⟨[], LH c b f0 x noAsk i, 19, [], 19⟩, .inr ?_, rfl, ?_⟩
      · exact Weak.eqs [] (by kernel_rfl) (by kernel_rfl) (by kernel_rfl) (by kernel_rfl) (by kernel_rfl) (by kernel_rfl) (by kernel_rfl) (by kernel_rfl) (by kernel_rfl) (by kernel_rfl)
      · rw [hs]; exact ⟨rfl, rfl, _, _, rfl⟩

end Uw.Try
