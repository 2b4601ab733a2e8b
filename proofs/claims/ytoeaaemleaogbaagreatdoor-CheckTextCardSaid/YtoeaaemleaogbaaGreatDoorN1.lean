/- N1: Ua Ub Uc Ud0 Ud Ue Uf Ug Uh Ui Uj Uk Ur Us Ut Uu Uv Uw Ux (merged by merge2.py from the working texts). -/
import Derived.WalkKit
import Derived.StillTail
import Derived.Deep.LoopGhost
import Derived.LoopNIn
import Derived.LoopN
import Derived.OrdersIn
import Derived.RangeFuncCalls
set_option linter.unusedSimpArgs false
set_option linter.unnecessarySimpa false
set_option linter.unusedVariables false
set_option linter.unusedSectionVars false
namespace Uw
open Go
inductive Dat where
 | bool (b:Bool)
 | int (k:IntKind) (n:Int)
 | str (s:List UInt8)
 | nil
 | slice (k:Nat) (xs:List (List Dat)) (z:Bool)
 | agg (cs:List Dat)
 | func (f:FuncId)
 | nilFunc
 | nilIface
 | nilPtr
 | nilMap
 | iface (t:TypeId) (d:Dat)
 | tuple (ds:List Dat)
 deriving Inhabited
inductive V where
 | d (x:Dat)
 | ptr (id off:Nat)
 | ro (cs:List Dat) (off:Nat)
 | eptr (id ver i c:Nat)
 | ref (id ver off len:Nat)
 | agg (cs:List V)
 | func (f:FuncId) (first cap:List V)
 | tuple (vs:List V)
 | hnd (id:Nat)
 | row (id len:Nat)
 | undef
 deriving Inhabited
inductive MKey where
 | i (n:Int)
 | s (b:List UInt8)
 deriving DecidableEq,Inhabited
inductive Blk where
 | var (cs:List V)
 | arr (k:Nat) (xs:List (List Dat))
 | mt (k ver:Nat) (xs:List (List Dat))
 | iter (s:List UInt8) (pos:Nat)
 | map (kk:Option IntKind) (es:List (MKey×Dat))
 deriving Inhabited
abbrev Regs:=List (Nat×V)
abbrev Heap:=List (Nat×Blk)
structure St where
 regs:Regs
 heap:Heap
 next:Nat
 defers:List V
 base:Nat
inductive Res where
 | val (v:V)
 | pan (d:Dat)
def look {α:Type}:List (Nat×α)→Nat→Option α
 | [],_=>none
 | (j,a)::r,i=>match Nat.beq j i with|true=>some a|false=>look r i
inductive Opd where
 | t (n:Nat)
 | c (d:Dat)
 deriving Inhabited
inductive MOp where
 | mov (x:Opd)
 | pick (c a b:Opd)
 | box (x:Opd)
 | alloc (zs:List Dat)
 | build (zs:List Dat) (parts:List (Nat×Nat×Opd))
 | load (agg:Bool) (n:Nat) (a:Opd)
 | store (n:Nat) (a x:Opd)
 | fld (off:Nat) (a:Opd)
 | nilck (x:Opd)
 | idx (k:Nat) (s i:Opd)
 | idxs (s i:Opd)
 | len (str:Bool) (s:Opd)
 | bin (op:BinOp) (x y:Opd)
 | eqb (neg:Bool) (x y:Opd)
 | not (x:Opd)
 | conv (k:IntKind) (x:Opd)
 | call (f:FuncId) (args:List Opd)
 | ext (x:Opd) (i:Nat)
 | bslice (k n:Nat) (zs:List Dat) (parts:List (Nat×Opd))
 | app (m:Bool) (k bytes:Nat) (s x:Opd)
 | mksl (m:Bool) (k bytes:Nat) (zs:List Dat) (len cap:Opd)
 | sl (k:Nat) (x:Opd) (lo hi:Option Opd)
 | slstr (x:Opd) (lo hi:Option Opd)
 | idxa (n k:Nat) (a i:Opd)
 | eqn (neg:Bool) (x:Opd)
 | eqi (neg:Bool) (x:Opd)
 | eqs (neg:Bool) (ks:List Nat) (x y:Opd)
 | sub (f:FuncId) (args:List Opd)
 | subv (x:Opd) (args:List Opd)
 | mkfn (f:FuncId) (first cap:List Opd)
 | defer (x:Opd) (args:List Opd)
 | panic (x:Opd)
 | mkif (t:TypeId) (x:Opd)
 | tas (t:TypeId) (z:Dat) (x:Opd)
 | copy (k:Nat) (d s:Opd)
 | mm (mx:Bool) (x y:Opd)
 | mkmap (kk:Option IntKind)
 | lkp (ok:Bool) (kk:Option IntKind) (z:Dat) (m x:Opd)
 | mupd (kk:Option IntKind) (m x v:Opd)
 | lenm (m:Opd)
 | rng (x:Opd)
 | nxt (x:Opd)
 | idxv (agg:Bool) (n k:Nat) (x i:Opd)
 | b2s (x:Opd)
 | fldv (agg:Bool) (n off:Nat) (x:Opd)
 | sl3 (k:Nat) (x:Opd) (lo:Option Opd) (hi mx:Opd)
 | loadF (a:Opd)
 | storeF (a x:Opd)
 | mkslF (bytes:Nat) (z:Dat) (len cap:Opd)
 | appF (k bytes:Nat) (s x:Opd)
 | lkpF (ok:Bool) (kk:Option IntKind) (z:Dat) (m x:Opd)
 | mupdF (kk:Option IntKind) (m x v:Opd)
 | rowlit (n:Nat) (zs:List Dat) (parts:List (Nat×Nat×Opd))
 deriving Inhabited
structure MI where
 g:Option (Nat×Bool)
 dst:Option Nat
 op:MOp
 deriving Inhabited
structure DOp where
 mi:MI
 dep:List Nat
 loud:Bool
 deriving Inhabited
inductive MCode where
 | skip
 | ops (l:List MI)
 | seq (a b:MCode)
 | cond (c:Opd) (x y:MCode)
 | block (id:Nat) (c:MCode)
 | loop (c:MCode)
 | exit (id:Nat)
 | ret
 | draw (fuel:Nat) (l:List DOp)
 deriving Inhabited
inductive MExit where
 | normal
 | exit (id:Nat)
 | ret
 | panic (d:Dat)
inductive Tree where
 | done (e:MExit) (st:St)
 | fail
 | test (b:Bool) (y n:Tree)
 | both (y n:Tree)
 | same (x y:Option V) (t:Tree)
 | elem (xs:List (List Dat)) (i:Nat) (k:List Dat→Tree)
 | byte (s:List UInt8) (i:Nat) (k:UInt8→Tree)
 | val (x:Option Dat) (k:Dat→Tree)
 | blk (x:Option Blk) (k:Blk→Tree)
 | vval (x:Option V) (k:V→Tree)
 | heq (h:Heap) (k:Heap→Tree)
 | call (f:FuncId) (args:List Dat) (k:Dat→Tree)
 | sub (f:FuncId) (vs:List V) (h:Heap) (next:Nat) (k:Res→Heap→Nat→Tree)
 | code (c:MCode) (st:St) (k:MExit→St→Tree)
def Opd.ev (st:St):Opd→Option V
 | .t n=>match look st.regs n with
  | some .undef=>none
  | r=>r
 | .c d=>some (.d d)
def V.cells:V→List V
 | .agg cs=>cs
 | .d (.agg ds)=>ds.map V.d
 | v=>[v]
def V.fld (off:Nat):V→Option V
 | .ptr id o=>some (.ptr id (o+off))
 | .ro cs o=>some (.ro cs (o+off))
 | .eptr _ _ _ _=>none
 | .d _=>none
 | .ref _ _ _ _=>none
 | .agg _=>none
 | .func _ _ _=>none
 | .tuple _=>none
 | .hnd _=>none
 | .row _ _=>none
 | .undef=>none
def V.isPtr:V→Bool
 | .ptr _ _=>true
 | .ro _ _=>true
 | .eptr _ _ _ _=>false
 | .d _=>false
 | .ref _ _ _ _=>false
 | .agg _=>false
 | .func _ _ _=>false
 | .tuple _=>false
 | .hnd _=>false
 | .row _ _=>false
 | .undef=>false
def V.isAgg:V→Bool
 | .agg _=>true
 | .d (.agg _)=>true
 | _=>false
def oneV:V→Bool
 | .agg _ | .tuple _ | .undef=>false
 | .d x=>match x with
  | .agg _ | .tuple _=>false
  | _=>true
 | _=>true
def V.dat (h:Heap):V→Option Dat
 | .d x=>some x
 | .agg cs=>(go cs).map Dat.agg
 | .ref id _ off len=>match look h id with
  | some (.arr k xs)=>some (.slice k ((xs.drop off).take len) false)
  | _=>none
 | .func f [] []=>some (.func f)
 | _=>none
where
 go:List V→Option (List Dat)
  | []=>some []
  | .d x::r=>match go r with|some l=>some (x::l)|none=>none
  | .ref id _ off len::r=>match look h id,go r with
   | some (.arr k xs),some l=>some (.slice k ((xs.drop off).take len) false::l)
   | _,_=>none
  | .func f [] []::r=>match go r with|some l=>some (.func f::l)|none=>none
  | _=>none
def datList (h:Heap):List V→Option (List Dat)
 | []=>some []
 | v::r=>match v.dat h,datList h r with
  | some x,some l=>some (x::l)
  | _,_=>none
def evList (st:St):List Opd→Option (List V)
 | []=>some []
 | x::r=>match x.ev st,evList st r with
  | some v,some l=>some (v::l)
  | _,_=>none
def V.ofDat:Dat→V
 | .agg ds=>.agg (ds.map V.d)
 | .tuple ds=>.tuple (ds.map ofDat1)
 | x=>.d x
where
 ofDat1:Dat→V
  | .agg ds=>.agg (ds.map V.d)
  | x=>.d x
def newBlk (st:St) (b:Blk):St:={ st with heap:=(st.next,b)::st.heap,next:=st.next+1 }
def setAt {α:Type}:List α→Nat→List α→List α
 | l,_,[]=>l
 | l,i,v::vs=>setAt (l.set i v) (i+1) vs
def fillParts (st:St):List V→List (Nat×Nat×Opd)→Option (List V)
 | cs,[]=>some cs
 | cs,(off,n,x)::r=>match x.ev st with
  | some v=>match Nat.beq v.cells.length n&&Nat.ble (off+n) cs.length with
   | true=>fillParts st (setAt cs off v.cells) r
   | false=>none
  | none=>none
def mkVal (agg:Bool) (cs:List V):Option V:=
 match agg,cs with
 | true,cs=>some (.agg cs)
 | false,[v]=>some v
 | false,_=>none
def inR (k:IntKind) (n:Int):Bool:=
 match k with
 | .i8=>decide (-128≤n)&&decide (n<128)
 | .i16=>decide (-32768≤n)&&decide (n<32768)
 | .i32=>decide (-2147483648≤n)&&decide (n<2147483648)
 | .i64=>decide (-9223372036854775808≤n)&&decide (n<9223372036854775808)
 | .u8=>decide (0≤n)&&decide (n<256)
 | .u16=>decide (0≤n)&&decide (n<65536)
 | .u32=>decide (0≤n)&&decide (n<4294967296)
 | .u64=>decide (0≤n)&&decide (n<18446744073709551616)
def fit (k:IntKind) (n:Int) (q:Int→Tree):Tree:=.test (inR k n) (q n) (q (k.wrap n))
def bits (op:BinOp) (k:IntKind) (x y:Int):Option Int:=
 let a:=BitVec.ofInt k.bits x
 let b:=BitVec.ofInt k.bits y
 match op with
 | .and=>some (k.wrap (a&&&b).toNat)
 | .or=>some (k.wrap (a|||b).toNat)
 | .xor=>some (k.wrap (a ^^^ b).toNat)
 | .andNot=>some (k.wrap (a&&&~~~b).toNat)
 | _=>none
def binI (op:BinOp) (k:IntKind) (a b:Int) (q:Dat→Tree):Tree:=
 match op with
 | .add=>fit k (a+b) fun n=>q (.int k n)
 | .sub=>fit k (a - b) fun n=>q (.int k n)
 | .mul=>fit k (a * b) fun n=>q (.int k n)
 | .quo=>.test (decide (b=0)) .fail (fit k (a.tdiv b) fun n=>q (.int k n))
 | .rem=>.test (decide (b=0)) .fail (q (.int k (a.tmod b)))
 | .eql=>q (.bool (decide (a=b)))
 | .neq=>q (.bool (!decide (a=b)))
 | .lss=>q (.bool (decide (a<b)))
 | .leq=>q (.bool (decide (a≤b)))
 | .gtr=>q (.bool (decide (b<a)))
 | .geq=>q (.bool (decide (b≤a)))
 | .shl | .shr=>.fail
 | op=>match bits op k a b with|some n=>q (.int k n)|none=>.fail
def strI (op:BinOp) (s t:List UInt8) (q:Dat→Tree):Tree:=
 match op with
 | .add=>.test (decide (s.length+t.length<4611686018427387904)) (q (.str (s++t))) .fail
 | .eql=>q (.bool (decide (s=t)))
 | .neq=>q (.bool (!decide (s=t)))
 | .lss=>q (.bool (Op.bytesLess s t))
 | .leq=>q (.bool (Op.bytesLess s t||decide (s=t)))
 | .gtr=>q (.bool (!(Op.bytesLess s t||decide (s=t))))
 | .geq=>q (.bool (!Op.bytesLess s t))
 | _=>.fail
def srcE (h:Heap) (k:Nat):V→Option (Option Bool×List (List Dat))
 | .d .nil=>some (none,[])
 | .d (.slice k' ys _)=>match Nat.beq k k' with
  | true=>some (none,ys)
  | false=>none
 | .ref id ver off len=>match look h id with
  | some (.arr k' xs)=>match Nat.beq k k' with
   | true=>some (none,(xs.drop off).take len)
   | false=>none
  | some (.mt k' ver' xs)=>match Nat.beq k k' with
   | true=>some (some (Nat.beq ver ver'),(xs.drop off).take len)
   | false=>none
  | _=>none
 | _=>none
def vtest (b:Option Bool) (t:Tree):Tree:=
 match b with
 | none=>t
 | some b=>.test b t .fail
def rowBlk (m:Bool) (k:Nat) (xs:List (List Dat)):Blk:=
 match m with
 | true=>.mt k 0 xs
 | false=>.arr k xs
def bsParts (st:St) (k:Nat):List (List Dat)→List (Nat×Opd)→Option (List (List Dat))
 | xs,[]=>some xs
 | xs,(i,x)::r=>match x.ev st with
  | some v=>match datList st.heap v.cells with
   | some ds=>match Nat.beq ds.length k&&Nat.blt i xs.length&&v.cells.all oneV with
    | true=>bsParts st k (xs.set i ds) r
    | false=>none
   | none=>none
  | none=>none
def optInt (st:St) (d:Int):Option Opd→Option Int
 | none=>some d
 | some x=>match x.ev st with
  | some (.d (.int _ n))=>some n
  | _=>none
def negB (neg b:Bool):Bool:=
 match neg with
 | true=>!b
 | false=>b
def eqD:Nat→Dat→Dat→Option Bool
 | 1,.int k a,.int k' b=>match decide (k=k') with
  | true=>some (decide (a=b))
  | false=>none
 | 0,.bool a,.bool b=>some (a == b)
 | 2,.str a,.str b=>some (decide (a=b))
 | _,_,_=>none
def eqL:List Nat→List V→List V→Option Bool
 | [],[],[]=>some true
 | k::ks,.d x::r,.d y::r'=>match eqD k x y,eqL ks r r' with
  | some a,some b=>some (a&&b)
  | _,_=>none
 | _,_,_=>none
def forceL {α:Type}:List α→(List α→Tree)→Tree
 | [],k=>k []
 | x::r,k=>forceL r fun r'=>k (x::r')
theorem forceL_eq {α:Type}:∀(l:List α) (k:List α→Tree),forceL l k=k l
 | [],_=>rfl
 | x::r,k=>by rw [forceL,forceL_eq r]
def onSt (st:St) (k:St→Tree):Tree:=
 match st with
 | ⟨a,b,c,d,e⟩=>k ⟨a,b,c,d,e⟩
theorem onSt_eq (st:St) (k:St→Tree):onSt st k=k st:=rfl
def place {α:Type}:List α→Nat→List α→List α
 | cs,_,[]=>cs
 | [],_,_::_=>[]
 | _::cs,0,v::vs=>v::place cs 0 vs
 | c::cs,n+1,v::vs=>c::place cs n (v::vs)
theorem setAt_nil {α:Type}:∀(vs:List α) (n:Nat),setAt [] n vs=[]
 | [],n=>rfl
 | v::vs,n=>by rw [setAt];exact setAt_nil vs (n+1)
theorem setAt_cons_succ {α:Type}:∀(vs:List α) (c:α) (cs:List α) (n:Nat),setAt (c::cs) (n+1) vs=c::setAt cs n vs
 | [],c,cs,n=>rfl
 | v::vs,c,cs,n=>by rw [setAt,setAt,List.set_cons_succ,setAt_cons_succ vs]
theorem place_eq {α:Type}:∀(cs:List α) (n:Nat) (vs:List α),place cs n vs=setAt cs n vs
 | cs,n,[]=>by rw [place,setAt]
 | [],n,v::vs=>by rw [place,setAt_nil]
 | c::cs,0,v::vs=>by rw [place,place_eq cs 0 vs,setAt,List.set_cons_zero,setAt_cons_succ]
 | c::cs,n+1,v::vs=>by rw [place,place_eq cs n (v::vs),setAt_cons_succ]
def fillK (st:St):List V→List (Nat×Nat×Opd)→(List V→Tree)→Tree
 | cs,[],k=>k cs
 | cs,(off,n,x)::r,k=>match x.ev st with
  | some v=>match Nat.beq v.cells.length n&&Nat.ble (off+n) cs.length with
   | true=>forceL (place cs off v.cells) fun cs'=>fillK st cs' r k
   | false=>.fail
  | none=>.fail
theorem fillK_eq {st:St}:∀(ps:List (Nat×Nat×Opd)) (cs:List V) (k:List V→Tree),fillK st cs ps k=match fillParts st cs ps with|some cs=>k cs|none=>.fail
 | [],cs,k=>rfl
 | (off,n,x)::r,cs,k=>by
  simp only [fillK,fillParts]
  split
  ·split
   ·rw [forceL_eq,place_eq,fillK_eq r]
   ·rfl
  ·rfl
def keyOf:Option IntKind→Dat→Option MKey
 | some k,.int k' n=>match decide (k=k') with
  | true=>some (.i n)
  | false=>none
 | none,.str b=>some (.s b)
 | _,_=>none
def mget:List (MKey×Dat)→MKey→Option Dat
 | [],_=>none
 | (k,v)::r,x=>match decide (x=k) with
  | true=>some v
  | false=>mget r x
def mset:List (MKey×Dat)→MKey→Dat→List (MKey×Dat)
 | [],x,d=>[(x,d)]
 | (k,v)::r,x,d=>match decide (x=k) with
  | true=>(k,d)::r
  | false=>(k,v)::mset r x d
def lkRes (ok:Bool) (v:V) (b:Bool):V:=
 match ok with
 | true=>.tuple [v,.d (.bool b)]
 | false=>v
noncomputable def runeAt (s:List UInt8) (pos:Nat):Nat×Nat:=Classical.choose (⟨_,rfl⟩:∃x,x=Utf8.decode ⟨s.toArray⟩ pos)
theorem runeAt_eq (s:List UInt8) (pos:Nat):runeAt s pos=Utf8.decode ⟨s.toArray⟩ pos:=Classical.choose_spec (⟨_,rfl⟩:∃x,x=Utf8.decode ⟨s.toArray⟩ pos)
def bytesOf:List (List Dat)→Option (List UInt8)
 | []=>some []
 | [.int .u8 n]::r=>match bytesOf r with
  | some l=>some (UInt8.ofNat n.toNat::l)
  | none=>none
 | _=>none
def mmI (mx:Bool) (a b:Int):Int:=
 match mx with
 | true=>max a b
 | false=>min a b
noncomputable def step (op:MOp) (st:St) (q:V→St→Tree) (x:MExit→St→Tree):Tree:=
 match op with
 | .mov x=>match x.ev st with|some v=>q v st|none=>.fail
 | .pick c a b=>match c.ev st with
  | some (.d (.bool t))=>.test t (match a.ev st with|some v=>q v st|none=>.fail) (match b.ev st with|some v=>q v st|none=>.fail)
  | _=>.fail
 | .box x=>match x.ev st with
  | some v=>forceL v.cells fun cs=>q (.ptr st.next 0) (newBlk st (.var cs))
  | none=>.fail
 | .alloc zs=>forceL (zs.map V.d) fun cs=>q (.ptr st.next 0) (newBlk st (.var cs))
 | .build zs ps=>forceL (zs.map V.d) fun zs'=>fillK st zs' ps fun cs=>q (.agg cs) st
 | .load agg n a=>match a.ev st with
  | some (.ptr id off)=>match look st.heap id with
   | some (.var cs)=>match Nat.ble (off+n) cs.length with
    | true=>forceL ((cs.drop off).take n) fun cs'=>match mkVal agg cs' with
     | some v=>q v st
     | none=>.fail
    | false=>.fail
   | _=>.fail
  | some (.ro cs off)=>match Nat.ble (off+n) cs.length with
   | true=>forceL (((cs.drop off).take n).map V.d) fun cs'=>match mkVal agg cs' with
    | some v=>q v st
    | none=>.fail
   | false=>.fail
  | some (.eptr id ver i cc)=>match look st.heap id with
   | some (.mt k ver' xs)=>.test (Nat.beq ver ver') (.elem xs i fun cs=>match Nat.ble (cc+n) cs.length with
     | true=>forceL (((cs.drop cc).take n).map V.d) fun cs'=>match mkVal agg cs' with
      | some v=>q v st
      | none=>.fail
     | false=>.fail) .fail
   | _=>.fail
  | _=>.fail
 | .store n a x=>match a.ev st,x.ev st with
  | some (.ptr id off),some v=>match look st.heap id with
   | some (.var cs)=>match Nat.beq v.cells.length n&&Nat.ble (off+n) cs.length&&v.cells.all oneV with
    | true=>forceL (place cs off v.cells) fun cs'=>q .undef { st with heap:=(id,.var cs')::st.heap }
    | false=>.fail
   | _=>.fail
  | some (.eptr id ver i cc),some v=>match look st.heap id with
   | some (.mt k ver' xs)=>match datList st.heap v.cells with
    | some ds=>.test (Nat.beq ver ver') (.elem xs i fun cs=>match Nat.beq ds.length n&&Nat.ble (cc+n) cs.length&&v.cells.all oneV with
     | true=>q .undef { st with heap:=(id,.mt k ver (xs.set i (setAt cs cc ds)))::st.heap }
     | false=>.fail) .fail
    | none=>.fail
   | _=>.fail
  | _,_=>.fail
 | .fld off a=>match a.ev st with
  | some v=>match v.fld off with
   | some u=>q u st
   | none=>.fail
  | none=>.fail
 | .nilck x=>match x.ev st with
  | some v=>match v.isPtr with
   | true=>q v st
   | false=>.fail
  | none=>.fail
 | .idx k s i=>match s.ev st,i.ev st with
  | some (.d (.slice k' xs _)),some (.d (.int _ n))=>match Nat.beq k k' with
   | true=>.test (decide (0≤n)&&decide (n<xs.length)) (.elem xs n.toNat fun cs=>q (.ro cs 0) st) .fail
   | false=>.fail
  | some (.ref id ver off len),some (.d (.int _ n))=>match look st.heap id with
   | some (.arr k' xs)=>match Nat.beq k k' with
    | true=>.test (decide (0≤n)&&decide (n<len)) (.elem xs (off+n.toNat) fun cs=>q (.ro cs 0) st) .fail
    | false=>.fail
   | some (.mt k' ver' xs)=>match Nat.beq k k' with
    | true=>.test (Nat.beq ver ver') (.test (decide (0≤n)&&decide (n<len)) (q (.eptr id ver (off+n.toNat) 0) st) .fail) .fail
    | false=>.fail
   | _=>.fail
  | some (.row id len),some (.d (.int _ n))=>.test (decide (0≤n)&&decide (n<len)) (q (.ptr id (n.toNat * k)) st) .fail
  | _,_=>.fail
 | .idxs s i=>match s.ev st,i.ev st with
  | some (.d (.str s)),some (.d (.int _ n))=>.test (decide (0≤n)&&decide (n<s.length)) (.byte s n.toNat fun b=>q (.d (.int .u8 b.toNat)) st) .fail
  | _,_=>.fail
 | .len false s=>match s.ev st with
  | some (.d (.slice _ xs _))=>q (.d (.int .i64 xs.length)) st
  | some (.d .nil)=>q (.d (.int .i64 0)) st
  | some (.ref id ver _ len)=>match look st.heap id with
   | some (.arr _ _)=>q (.d (.int .i64 len)) st
   | some (.mt _ ver' _)=>.test (Nat.beq ver ver') (q (.d (.int .i64 len)) st) .fail
   | _=>.fail
  | some (.row _ len)=>q (.d (.int .i64 len)) st
  | _=>.fail
 | .len true s=>match s.ev st with
  | some (.d (.str s))=>q (.d (.int .i64 s.length)) st
  | _=>.fail
 | .bin op x y=>match x.ev st,y.ev st with
  | some (.d (.int k a)),some (.d (.int k' b))=>match decide (k=k') with
   | true=>binI op k a b fun d=>q (.d d) st
   | false=>.fail
  | some (.d (.str a)),some (.d (.str b))=>strI op a b fun d=>q (.d d) st
  | _,_=>.fail
 | .eqb neg x y=>match x.ev st,y.ev st with
  | some (.d (.bool a)),some (.d (.bool b))=>q (.d (.bool (match neg with|true=>a != b|false=>a == b))) st
  | _,_=>.fail
 | .not x=>match x.ev st with
  | some (.d (.bool b))=>q (.d (.bool (!b))) st
  | _=>.fail
 | .conv k x=>match x.ev st with
  | some (.d (.int _ n))=>fit k n fun n=>q (.d (.int k n)) st
  | _=>.fail
 | .call f xs=>match evList st xs with
  | some vs=>match datList st.heap vs with
   | some ds=>.call f ds fun r=>q (V.ofDat r) st
   | none=>.fail
  | none=>.fail
 | .ext x i=>match x.ev st with
  | some (.tuple vs)=>match vs[i]? with|some v=>q v st|none=>.fail
  | _=>.fail
 | .bslice k n zs ps=>match bsParts st k (List.replicate n zs) ps with
  | some xs=>q (.d (.slice k xs true)) st
  | none=>.fail
 | .app m k bytes s x=>match s.ev st,x.ev st with
  | some b,some y=>match srcE st.heap k y with
   | some (vb,ys)=>vtest vb (match b with
    | .d .nil=>.test (decide (ys.length * bytes≤70368744177664))
      (q (.ref st.next 0 0 ys.length) (newBlk st (rowBlk m k ys))) .fail
    | .d (.slice k' xs true)=>match Nat.beq k k' with
     | true=>.test xs.isEmpty
       (.test (decide (ys.length * bytes≤70368744177664)) (.test ys.isEmpty (q b st) (q (.ref st.next 0 0 ys.length) (newBlk st (rowBlk m k ys)))) .fail)
       (.test (decide ((xs.length+ys.length) * bytes≤70368744177664))
        (.test ys.isEmpty (q b st) (q (.ref st.next 0 0 (xs.length+ys.length)) (newBlk st (rowBlk m k (xs++ys))))) .fail)
     | false=>.fail
    | .ref id ver 0 len=>match look st.heap id with
     | some (.arr k' xs)=>match Nat.beq k k' with
      | true=>.test (decide (len=xs.length)&&decide ((len+ys.length) * bytes≤70368744177664))
        (q (.ref id 0 0 (len+ys.length)) { st with heap:=(id,.arr k (xs++ys))::st.heap }) .fail
      | false=>.fail
     | some (.mt k' ver' xs)=>match Nat.beq k k' with
      | true=>.test (Nat.beq ver ver') (.test (decide ((len+ys.length) * bytes≤70368744177664))
        (q (.ref id (ver+1) 0 (len+ys.length)) { st with heap:=(id,.mt k (ver+1) (xs.take len++ys))::st.heap }) .fail) .fail
      | false=>.fail
     | _=>.fail
    | _=>.fail)
   | none=>.fail
  | _,_=>.fail
 | .mksl m k bytes zs l cp=>match l.ev st,cp.ev st with
  | some (.d (.int .i64 n)),some (.d (.int .i64 c))=>.test (decide (0≤n)&&decide (n≤c)&&decide (c * bytes≤70368744177664))
    (q (.ref st.next 0 0 n.toNat) (newBlk st (rowBlk m k (List.replicate n.toNat zs)))) .fail
  | _,_=>.fail
 | .sl k x lo hi=>match x.ev st with
  | some (.d (.slice k' xs z))=>match Nat.beq k k',optInt st 0 lo,optInt st xs.length hi with
   | true,some l,some h=>.test (decide (0≤l)&&decide (l≤h)&&decide (h≤xs.length))
     (q (.d (.slice k ((xs.take h.toNat).drop l.toNat) false)) st) .fail
   | _,_,_=>.fail
  | some (.ref id ver off len)=>match look st.heap id,optInt st 0 lo,optInt st len hi with
   | some (.arr k' xs),some l,some h=>match Nat.beq k k' with
    | true=>.test (decide (0≤l)&&decide (l≤h)&&decide (h≤len)) (q (.ref id ver (off+l.toNat) (h - l).toNat) st) .fail
    | false=>.fail
   | some (.mt k' ver' xs),some l,some h=>match Nat.beq k k' with
    | true=>.test (Nat.beq ver ver') (.test (decide (0≤l)&&decide (l≤h)&&decide (h≤len)) (q (.ref id ver (off+l.toNat) (h - l).toNat) st) .fail) .fail
    | false=>.fail
   | _,_,_=>.fail
  | some (.d .nil)=>match optInt st 0 lo,optInt st 0 hi with
   | some l,some h=>.test (decide (l=0)&&decide (h=0)) (q (.d .nil) st) .fail
   | _,_=>.fail
  | _=>.fail
 | .slstr x lo hi=>match x.ev st with
  | some (.d (.str s))=>match optInt st 0 lo,optInt st s.length hi with
   | some l,some h=>.test (decide (0≤l)&&decide (l≤h)&&decide (h≤s.length)) (q (.d (.str ((s.take h.toNat).drop l.toNat))) st) .fail
   | _,_=>.fail
  | _=>.fail
 | .idxa n k a i=>match a.ev st,i.ev st with
  | some (.ptr id off),some (.d (.int _ j))=>.test (decide (0≤j)&&decide (j<n)) (q (.ptr id (off+j.toNat * k)) st) .fail
  | some (.ro cs off),some (.d (.int _ j))=>.test (decide (0≤j)&&decide (j<n)) (q (.ro cs (off+j.toNat * k)) st) .fail
  | _,_=>.fail
 | .eqn neg x=>match x.ev st with
  | some (.d .nil)=>q (.d (.bool (!neg))) st
  | some (.d (.slice _ xs _))=>.test xs.isEmpty (.both (q (.d (.bool (!neg))) st) (q (.d (.bool neg)) st)) (q (.d (.bool neg)) st)
  | _=>.fail
 | .eqi neg x=>match x.ev st with
  | some (.d .nilIface)=>q (.d (.bool (!neg))) st
  | some (.d (.iface _ _))=>q (.d (.bool neg)) st
  | _=>.fail
 | .eqs neg ks x y=>match x.ev st,y.ev st with
  | some v,some u=>match v.isAgg&&u.isAgg,eqL ks v.cells u.cells with
   | true,some b=>q (.d (.bool (negB neg b))) st
   | _,_=>.fail
  | _,_=>.fail
 | .sub f xs=>match evList st xs with
  | some vs=>.sub f vs st.heap st.next fun r h n=>match r with
   | .val v=>q v { st with heap:=h,next:=n }
   | .pan d=>x (.panic d) { st with heap:=h,next:=n }
  | none=>.fail
 | .subv g xs=>match g.ev st,evList st xs with
  | some (.d (.func f)),some vs=>.sub f vs st.heap st.next fun r h n=>match r with
   | .val v=>q v { st with heap:=h,next:=n }
   | .pan d=>x (.panic d) { st with heap:=h,next:=n }
  | some (.func f fs cs),some vs=>.sub f (fs++(vs++cs)) st.heap st.next fun r h n=>match r with
   | .val v=>q v { st with heap:=h,next:=n }
   | .pan d=>x (.panic d) { st with heap:=h,next:=n }
  | _,_=>.fail
 | .mkfn f xs ys=>match evList st xs,evList st ys with
  | some fs,some cs=>q (.func f fs cs) st
  | _,_=>.fail
 | .defer g xs=>match g.ev st,evList st xs with
  | some (.d (.func f)),some vs=>q .undef { st with defers:=.func f vs []::st.defers }
  | some (.func f fs cs),some vs=>q .undef { st with defers:=.func f (fs++vs) cs::st.defers }
  | _,_=>.fail
 | .panic y=>match y.ev st with
  | some (.d (.iface t d))=>x (.panic (.iface t d)) st
  | _=>.fail
 | .mkif t y=>match y.ev st with
  | some v=>match v.dat st.heap with
   | some d=>q (.d (.iface t d)) st
   | none=>.fail
  | none=>.fail
 | .tas t z y=>match y.ev st with
  | some (.d (.iface t' d))=>match Nat.beq t t' with
   | true=>q (.tuple [V.ofDat d,.d (.bool true)]) st
   | false=>q (.tuple [V.ofDat z,.d (.bool false)]) st
  | some (.d .nilIface)=>q (.tuple [V.ofDat z,.d (.bool false)]) st
  | _=>.fail
 | .copy k d s=>match d.ev st,s.ev st with
  | some (.ref id ver off len),some y=>match look st.heap id,srcE st.heap k y with
   | some (.mt k' ver' xs),some (vb,ys)=>match Nat.beq k k' with
    | true=>vtest vb (.test (Nat.beq ver ver') (q (.d (.int .i64 ((min len ys.length:Nat):Int)))
      { st with heap:=(id,.mt k ver (setAt xs off (ys.take (min len ys.length))))::st.heap }) .fail)
    | false=>.fail
   | _,_=>.fail
  | _,_=>.fail
 | .mm mx x y=>match x.ev st,y.ev st with
  | some (.d (.int k a)),some (.d (.int k' b))=>match decide (k=k') with
   | true=>q (.d (.int k (mmI mx a b))) st
   | false=>.fail
  | _,_=>.fail
 | .mkmap kk=>q (.hnd st.next) (newBlk st (.map kk []))
 | .lkp ok kk z m y=>match m.ev st,y.ev st with
  | some (.hnd id),some (.d x)=>match look st.heap id with
   | some (.map kk' es)=>match decide (kk=kk'),keyOf kk x with
    | true,some key=>.test (mget es key).isSome (.val (mget es key) fun v=>q (lkRes ok (V.ofDat v) true) st) (q (lkRes ok (V.ofDat z) false) st)
    | _,_=>.fail
   | _=>.fail
  | _,_=>.fail
 | .mupd kk m y u=>match m.ev st,y.ev st,u.ev st with
  | some (.hnd id),some (.d x),some v=>match look st.heap id,v.dat st.heap with
   | some (.map kk' es),some d=>match decide (kk=kk'),keyOf kk x with
    | true,some key=>q .undef { st with heap:=(id,.map kk (mset es key d))::st.heap }
    | _,_=>.fail
   | _,_=>.fail
  | _,_,_=>.fail
 | .lenm m=>match m.ev st with
  | some (.hnd id)=>match look st.heap id with
   | some (.map _ es)=>q (.d (.int .i64 es.length)) st
   | _=>.fail
  | _=>.fail
 | .rng x=>match x.ev st with
  | some (.d (.str s))=>q (.hnd st.next) (newBlk st (.iter s 0))
  | _=>.fail
 | .nxt x=>match x.ev st with
  | some (.hnd id)=>match look st.heap id with
   | some (.iter s pos)=>.test (decide (pos<s.length))
     (q (.tuple [.d (.bool true),.d (.int .i64 pos),.d (.int .i32 (runeAt s pos).1)]) { st with heap:=(id,.iter s (pos+(runeAt s pos).2))::st.heap })
     (q (.tuple [.d (.bool false)]) st)
   | _=>.fail
  | _=>.fail
 | .idxv agg n k y i=>match y.ev st,i.ev st with
  | some v,some (.d (.int _ j))=>match v.isAgg with
   | true=>.test (decide (0≤j)&&decide (j<n)) (match Nat.ble (j.toNat * k+k) v.cells.length with
    | true=>forceL ((v.cells.drop (j.toNat * k)).take k) fun cs=>match mkVal agg cs with
     | some u=>q u st
     | none=>.fail
    | false=>.fail) .fail
   | false=>.fail
  | _,_=>.fail
 | .fldv agg n off y=>match y.ev st with
  | some v=>match v.isAgg&&Nat.ble (off+n) v.cells.length with
   | true=>forceL ((v.cells.drop off).take n) fun cs=>match mkVal agg cs with
    | some u=>q u st
    | none=>.fail
   | false=>.fail
  | none=>.fail
 | .sl3 k x lo hi mx=>match x.ev st with
  | some (.d (.slice k' xs z))=>match Nat.beq k k',optInt st 0 lo,optInt st 0 (some hi),optInt st 0 (some mx) with
   | true,some l,some h,some m=>.test (decide (0≤l)&&decide (l<h)&&decide (h=m)&&decide (m≤xs.length))
     (q (.d (.slice k ((xs.take h.toNat).drop l.toNat) true)) st) (.test (decide (l=0)&&decide (h=0)&&decide (m=0)) (q (.d (.slice k [] true)) st) .fail)
   | _,_,_,_=>.fail
  | some (.ref id ver off len)=>match look st.heap id,optInt st 0 lo,optInt st 0 (some hi),optInt st 0 (some mx) with
   | some (.arr k' xs),some l,some h,some m=>match Nat.beq k k' with
    | true=>.test (decide (0≤l)&&decide (l<h)&&decide (h=m)&&decide (m≤len))
      (q (.d (.slice k ((((xs.drop off).take len).take h.toNat).drop l.toNat) true)) st) .fail
    | false=>.fail
   | _,_,_,_=>.fail
  | some (.d .nil)=>match optInt st 0 lo,optInt st 0 (some hi),optInt st 0 (some mx) with
   | some l,some h,some m=>.test (decide (l=0)&&decide (h=0)&&decide (m=0)) (q (.d .nil) st) .fail
   | _,_,_=>.fail
  | _=>.fail
 | .b2s x=>match x.ev st with
  | some (.d (.slice k ys _))=>match Nat.beq k 1,bytesOf ys with
   | true,some bs=>q (.d (.str bs)) st
   | _,_=>.fail
  | _=>.fail
 | .loadF a=>match a.ev st with
  | some (.ptr id off)=>match look st.heap id with
   | some (.var cs)=>.vval (cs[off]?) fun v=>q v st
   | _=>.fail
  | some (.ro cs off)=>match Nat.ble (off+1) cs.length with
   | true=>forceL (((cs.drop off).take 1).map V.d) fun cs'=>match mkVal false cs' with
    | some v=>q v st
    | none=>.fail
   | false=>.fail
  | _=>.fail
 | .storeF a x=>match a.ev st,x.ev st with
  | some (.ptr id off),some v=>match look st.heap id,oneV v with
   | some (.var cs),true=>.test (decide (off<cs.length)) (q .undef { st with heap:=(id,.var (cs.set off v))::st.heap }) .fail
   | _,_=>.fail
  | _,_=>.fail
 | .mkslF bytes z l cp=>match l.ev st,cp.ev st with
  | some (.d (.int .i64 n)),some (.d (.int .i64 c))=>.test (decide (n=c)&&decide (0≤n)&&decide (c * bytes≤70368744177664))
    (.test (decide (0<n)) (q (.row st.next n.toNat) (newBlk st (.var (List.replicate n.toNat (.d z))))) (q (.d (.slice 1 [] true)) st)) .fail
  | _,_=>.fail
 | .appF k bytes s x=>match s.ev st,x.ev st with
  | some b,some y=>match srcE st.heap k y with
   | some (none,ys)=>match b with
    | .d .nil=>.test (decide (ys.length * bytes≤70368744177664))
      (q (.ref st.next 0 0 ys.length) (newBlk st (.arr k ys))) .fail
    | .d (.slice k' xs true)=>match Nat.beq k k' with
     | true=>.test xs.isEmpty
       (.test (decide (ys.length * bytes≤70368744177664)) (.test ys.isEmpty (q b st) (q (.ref st.next 0 0 ys.length) (newBlk st (.arr k ys)))) .fail)
       .fail
     | false=>.fail
    | .ref id ver 0 len=>.blk (look st.heap id) fun b=>match b with
     | .arr k' xs=>match Nat.beq k k' with
      | true=>.test (decide (len=xs.length)&&decide ((len+ys.length) * bytes≤70368744177664))
        (.heq ((id,.arr k (xs++ys))::st.heap) fun h=>q (.ref id 0 0 (len+ys.length)) { st with heap:=h }) .fail
      | false=>.fail
     | _=>.fail
    | _=>.fail
   | _=>.fail
  | _,_=>.fail
 | .lkpF ok kk z m y=>match m.ev st,y.ev st with
  | some (.hnd id),some (.d x)=>.blk (look st.heap id) fun b=>match b with
   | .map kk' es=>match decide (kk=kk'),keyOf kk x with
    | true,some key=>.test (mget es key).isSome (.val (mget es key) fun v=>q (lkRes ok (V.ofDat v) true) st) (q (lkRes ok (V.ofDat z) false) st)
    | _,_=>.fail
   | _=>.fail
  | _,_=>.fail
 | .mupdF kk m y u=>match m.ev st,y.ev st,u.ev st with
  | some (.hnd id),some (.d x),some v=>match v.dat st.heap with
   | some d=>.blk (look st.heap id) fun b=>match b with
    | .map kk' es=>match decide (kk=kk'),keyOf kk x with
     | true,some key=>.heq ((id,.map kk (mset es key d))::st.heap) fun h=>q .undef { st with heap:=h }
     | _,_=>.fail
    | _=>.fail
   | _=>.fail
  | _,_,_=>.fail
 | .rowlit n zs ps=>forceL (zs.map V.d) fun cs=>fillK st cs ps fun cs=>q (.row st.next n) (newBlk st (.var cs))
def put (dst:Option Nat) (v:V) (st:St):St:=
 match dst with
 | some d=>{ st with regs:=(d,v)::st.regs }
 | none=>st
def keepMode (dst:Option Nat) (mode:Option (Nat×Bool×Bool)):Option (Nat×Bool×Bool):=
 match dst,mode with
 | some d,some (t,want,hold)=>match Nat.beq d t with
  | true=>none
  | false=>some (t,want,hold)
 | _,m=>m
def decided (mode:Option (Nat×Bool×Bool)) (t:Nat) (want:Bool):Option Bool:=
 match mode with
 | some (t',want',hold)=>match Nat.beq t t'&&(want == want') with
  | true=>some hold
  | false=>none
 | none=>none
abbrev Mode:=Option (Nat×Bool×Bool)
abbrev Go0:=St→(MExit→St→Tree)→Tree
abbrev Go1:=Mode→Go0
def opsNil:Go1:=fun _ st q=>q .normal st
noncomputable def opsCons (i:MI) (r:List MI) (ih:Go1):Go1:=fun mode st q=>onSt st fun st=>match i.g with
  | none=>step i.op st (fun v st'=>ih none (put i.dst v st') q) q
  | some (t,want)=>
   match decided mode t want with
   | some true=>step i.op st (fun v st'=>ih (keepMode i.dst mode) (put i.dst v st') q) q
   | some false=>ih (keepMode i.dst mode) (put i.dst (.tuple []) st) q
   | none=>match look st.regs t with
    | some (.d (.bool b))=>.test (b == want)
      (step i.op (put (some t) (.d (.bool want)) st) (fun v st'=>ih (keepMode i.dst (some (t,want,true))) (put i.dst v st') q) q)
      (ih (keepMode i.dst (some (t,want,false))) (put i.dst (.tuple []) (put (some t) (.d (.bool (!want))) st)) q)
    | some (.tuple [])=>ih (keepMode i.dst mode) (put i.dst (.tuple []) st) q
    | _=>.fail
noncomputable def execOps (l:List MI):Go1:=List.rec (motive:=fun _=>Go1) opsNil opsCons l
theorem execOps_nil (mode:Mode) (st:St) (q:MExit→St→Tree):execOps [] mode st q=q .normal st:=rfl
theorem execOps_cons (i:MI) (r:List MI) (mode:Mode) (st:St) (q:MExit→St→Tree):execOps (i::r) mode st q=onSt st fun st=>match i.g with
  | none=>step i.op st (fun v st'=>execOps r none (put i.dst v st') q) q
  | some (t,want)=>
   match decided mode t want with
   | some true=>step i.op st (fun v st'=>execOps r (keepMode i.dst mode) (put i.dst v st') q) q
   | some false=>execOps r (keepMode i.dst mode) (put i.dst (.tuple []) st) q
   | none=>match look st.regs t with
    | some (.d (.bool b))=>.test (b == want)
      (step i.op (put (some t) (.d (.bool want)) st) (fun v st'=>execOps r (keepMode i.dst (some (t,want,true))) (put i.dst v st') q) q)
      (execOps r (keepMode i.dst (some (t,want,false))) (put i.dst (.tuple []) (put (some t) (.d (.bool (!want))) st)) q)
    | some (.tuple [])=>execOps r (keepMode i.dst mode) (put i.dst (.tuple []) st) q
    | _=>.fail:=rfl
def exSkip:Go0:=fun st q=>q .normal st
noncomputable def exOps (l:List MI):Go0:=fun st q=>execOps l none st q
def exSeq (_ _:MCode) (a b:Go0):Go0:=fun st q=>a st fun e st'=>match e with
  | .normal=>b st' q
  | e=>q e st'
def exCond (c:Opd) (_ _:MCode) (x y:Go0):Go0:=fun st q=>match c.ev st with
  | some (.d (.bool b))=>.test b (x st q) (y st q)
  | _=>.fail
def exBlock (id:Nat) (_:MCode) (c:Go0):Go0:=fun st q=>c st fun e st'=>match e with
  | .exit j=>match Nat.beq j id with
   | true=>q .normal st'
   | false=>q (.exit j) st'
  | e=>q e st'
def exLoop (c:MCode) (_:Go0):Go0:=fun st q=>.code (.loop c) st q
def exExit (id:Nat):Go0:=fun st q=>q (.exit id) st
def exRet:Go0:=fun st q=>q .ret st
def exDraw (m:Nat) (l:List DOp):Go0:=fun st q=>.code (.draw m l) st q
noncomputable def exec (m:MCode):Go0:=MCode.rec (motive:=fun _=>Go0) exSkip exOps exSeq exCond exBlock exLoop exExit exRet exDraw m
theorem exec_skip (st:St) (q:MExit→St→Tree):exec .skip st q=q .normal st:=rfl
theorem exec_ops (l:List MI) (st:St) (q:MExit→St→Tree):exec (.ops l) st q=execOps l none st q:=rfl
theorem exec_seq (a b:MCode) (st:St) (q:MExit→St→Tree):exec (.seq a b) st q=exec a st fun e st'=>match e with
  | .normal=>exec b st' q
  | e=>q e st':=rfl
theorem exec_cond (c:Opd) (x y:MCode) (st:St) (q:MExit→St→Tree):exec (.cond c x y) st q=match c.ev st with
  | some (.d (.bool b))=>.test b (exec x st q) (exec y st q)
  | _=>.fail:=rfl
theorem exec_block (id:Nat) (c:MCode) (st:St) (q:MExit→St→Tree):exec (.block id c) st q=exec c st fun e st'=>match e with
  | .exit j=>match Nat.beq j id with
   | true=>q .normal st'
   | false=>q (.exit j) st'
  | e=>q e st':=rfl
theorem exec_loop (c:MCode) (st:St) (q:MExit→St→Tree):exec (.loop c) st q = .code (.loop c) st q:=rfl
theorem exec_exit (id:Nat) (st:St) (q:MExit→St→Tree):exec (.exit id) st q=q (.exit id) st:=rfl
theorem exec_ret (st:St) (q:MExit→St→Tree):exec .ret st q=q .ret st:=rfl
theorem exec_draw (m:Nat) (l:List DOp) (st:St) (q:MExit→St→Tree):exec (.draw m l) st q = .code (.draw m l) st q:=rfl
def memN:List Nat→Nat→Bool
 | [],_=>false
 | x::r,i=>match Nat.beq x i with
  | true=>true
  | false=>memN r i
def allMem:List Nat→List Nat→List Nat→Bool
 | [],_,_=>true
 | j::r,E,D=>(memN E j||memN D j)&&allMem r E D
def waited (all:List DOp):List Nat→Nat→Bool
 | [],_=>false
 | n::D,i=>(match all[n]? with|some o=>memN o.dep i|none=>false)||waited all D i
noncomputable def phaseT (all:List DOp) (D:List Nat):List DOp→Nat→List Nat→St→(List Nat→St→Tree)→Tree
 | [],_,E,st,q=>q E st
 | o::r,i,E,st,q=>match o.loud with
  | true=>phaseT all D r (i+1) E st q
  | false=>match memN E i with
   | true=>match waited all D i with
    | true=>phaseT all D r (i+1) E st q
    | false=>execOps [o.mi] none st fun e st'=>match e with
     | .normal=>.same (match o.mi.dst with|some d=>look st'.regs d|none=>none) (match o.mi.dst with|some d=>look st.regs d|none=>none) (phaseT all D r (i+1) E st q)
     | _=>.fail
   | false=>match allMem o.dep E D with
    | true=>execOps [o.mi] none st fun e st'=>match e with
     | .normal=>phaseT all D r (i+1) (i::E) st' q
     | _=>.fail
    | false=>phaseT all D r (i+1) E st q
def bothL:List Tree→Tree
 | []=>.fail
 | [t]=>t
 | t::r=>.both t (bothL r)
def loudT (E D:List Nat):List DOp→Nat→(Nat→DOp→Tree)→List Tree
 | [],_,_=>[]
 | o::r,i,f=>match o.loud&&!memN D i&&allMem o.dep E D with
  | true=>f i o::loudT E D r (i+1) f
  | false=>loudT E D r (i+1) f
def noLoud (D:List Nat):List DOp→Nat→Bool
 | [],_=>true
 | o::r,i=>(!o.loud||memN D i)&&noLoud D r (i+1)
def dstIs (t:Nat) (o:DOp):Bool:=
 match o.mi.dst with
 | some d=>Nat.beq d t
 | none=>false
def keepR (all:List DOp):Regs→Regs
 | []=>[]
 | (t,v)::r=>match all.any (dstIs t) with
  | true=>keepR all r
  | false=>(t,v)::keepR all r
noncomputable def drawT (all:List DOp) (r0:Regs):Nat→List Nat→List Nat→St→(MExit→St→Tree)→Tree
 | 0,E,D,st,q=>phaseT all D all 0 E st fun E' st'=>match noLoud D all 0 with
  | true=>q .normal st'
  | false=>.fail
 | m+1,E,D,st,q=>phaseT all D all 0 E st fun E' st'=>bothL (loudT E' D all 0 fun i o=>execOps [o.mi] none st' fun e st''=>match e with
  | .normal=>drawT all r0 m E' (i::D) st'' q
  | e=>q e { st'' with regs:=r0 })
end Uw
namespace Uw
open Go
structure Pol where
 mt:Bool
 sub:List Nat
def datOf:Value→Option Dat
 | .bool b=>some (.bool b)
 | .int k n=>some (.int k n)
 | .string s=>some (.str s.data.toList)
 | .slice none 0 0=>some .nil
 | .nilFunc=>some .nilFunc
 | .nilIface=>some .nilIface
 | .pointer none=>some .nilPtr
 | .map none=>some .nilMap
 | .func (.func f) x y=>match x.toList,y.toList with
  | [],[]=>some (.func f)
  | _,_=>none
 | _=>none
def datsOf:List Value→Option (List Dat)
 | []=>some []
 | v::r=>match datOf v,datsOf r with
  | some x,some l=>some (x::l)
  | _,_=>none
def compOpd:Operand→Option Opd
 | .tmp t=>some (.t t)
 | .const v=>(datOf v).map Opd.c
 | .func f=>some (.c (.func f))
 | .global _=>none
def compOpds:List Operand→Option (List Opd)
 | []=>some []
 | x::r=>match compOpd x,compOpds r with
  | some v,some l=>some (v::l)
  | _,_=>none
def compOpt:Option Operand→Option (Option Opd)
 | none=>some none
 | some z=>(compOpd z).map some
def compBs:List (Nat×Operand)→Option (List (Nat×Opd))
 | []=>some []
 | (i,x)::r=>match compOpd x,compBs r with
  | some y,some l=>some ((i,y)::l)
  | _,_=>none
def isAggT (P:Program) (t:TypeId):Option Bool:=
 match P.underlying t with
 | some (.struct _)|some (.array _ _)=>some true
 | some _=>some false
 | none=>none
def sizeT (P:Program) (t:TypeId):Option Nat:=(P.info? t).map (·.size)
def zeroT (P:Program) (t:TypeId):Option (List Dat):=
 match P.info? t with
 | some i=>match i.zero with
  | some v=>datsOf v.cells.toList
  | none=>none
 | none=>none
def elemT (P:Program) (t:TypeId):Option (TypeId×Nat×Nat×List Dat):=
 match P.underlying t with
 | some (.slice e)=>match P.info? e with
  | some i=>match i.zero with
   | some z=>match datsOf z.cells.toList with
    | some zs=>match Nat.beq z.cells.size i.size&&Nat.beq zs.length i.size&&Nat.blt 0 i.size&&Nat.blt 0 i.bytes with
     | true=>some (e,i.size,i.bytes,zs)
     | false=>none
    | none=>none
   | none=>none
  | none=>none
 | _=>none
def concT (P:Program) (t:TypeId):Bool:=
 match P.underlying t with
 | some (.interface _)=>false
 | some _=>true
 | none=>false
def zeroV (P:Program) (t:TypeId):Option Dat:=
 match P.info? t with
 | some i=>match i.zero with
  | some (.agg vs)=>(datsOf vs.toList).map Dat.agg
  | some v=>datOf v
  | none=>none
 | none=>none
def mapT (P:Program) (t:TypeId):Option (TypeId×TypeId×Option IntKind×Dat):=
 match P.underlying t with
 | some (.map k e)=>match P.underlying k,zeroV P e with
  | some (.int ik),some z=>some (k,e,some ik,z)
  | some .string,some z=>some (k,e,none,z)
  | _,_=>none
 | _=>none
def refT (P:Program) (t:TypeId):Bool:=
 match P.underlying t with
 | some (.slice _)|some (.map _ _)=>true
 | _=>false
def Pol.fam (pol:Pol):Bool:=pol.sub.contains 1000000
def kindT (P:Program) (t:TypeId):Option Nat:=
 match P.underlying t with
 | some .bool=>some 0
 | some (.int _)=>some 1
 | some .string=>some 2
 | _=>none
def flatF (P:Program):Nat→List Field→Option (List Nat)
 | _,[]=>some []
 | i,f::r=>match kindT P f.type,Nat.beq f.offset i&&(f.name != "_"),flatF P (i+1) r with
  | some k,true,some l=>some (k::l)
  | _,_,_=>none
def flatT (P:Program) (t:TypeId):Option (List Nat):=
 match P.underlying t with
 | some (.struct fs)=>match !P.stoodInHeld t&&!P.eqGuardType P.depth t with
  | true=>flatF P 0 fs.toList
  | false=>none
 | _=>none
def isNilC:Operand→Bool
 | .const (.slice none _ _)=>true
 | _=>false
def isNilI:Operand→Bool
 | .const .nilIface=>true
 | _=>false
def placeT (P:Program) (t:TypeId):Option (Nat→Option (Nat×Nat)):=
 match P.info? t,P.underlying t with
 | some _,some (.array _ e)=>match P.info? e with
  | some ie=>some fun i=>some (i * ie.size,ie.size)
  | none=>none
 | some _,some (.struct fs)=>match fs.toList.mapM (fun f=>(P.info? f.type).map fun i=>(f.offset,i.size)) with
  | some places=>some fun i=>places.toArray[i]?
  | none=>none
 | _,_=>none
def compParts (place:Nat→Option (Nat×Nat)):List (Nat×Operand)→Option (List (Nat×Nat×Opd))
 | []=>some []
 | (i,x)::r=>match place i,compOpd x,compParts place r with
  | some (off,n),some o,some l=>some ((off,n,o)::l)
  | _,_,_=>none
def compOp (P:Program) (pol:Pol) (o:Oper):Option MOp:=
 match o.op with
 | .move x | .assign x=>(compOpd x).map MOp.mov
 | .pick c a b=>match compOpd c,compOpd a,compOpd b with
  | some c,some a,some b=>some (.pick c a b)
  | _,_,_=>none
 | .box _ x=>(compOpd x).map MOp.box
 | .alloc t=>(zeroT P t).map MOp.alloc
 | .build t ps=>match placeT P t,zeroT P t with
  | some place,some zs=>(compParts place ps.toList).map (MOp.build zs)
  | _,_=>none
 | .load t a=>match isAggT P t,sizeT P t,compOpd a with
  | some g,some n,some a=>match pol.fam&&refT P t&&!g&&Nat.beq n 1 with
   | true=>some (.loadF a)
   | false=>some (.load g n a)
  | _,_,_=>none
 | .store t a x=>match sizeT P t,compOpd a,compOpd x with
  | some n,some a,some x=>match pol.fam&&refT P t&&Nat.beq n 1 with
   | true=>some (.storeF a x)
   | false=>some (.store n a x)
  | _,_,_=>none
 | .nilCheck x=>(compOpd x).map MOp.nilck
 | .fieldAddr s x f=>match P.underlying s with
  | some (.struct fs)=>match fs[f]? with
   | some fd=>match sizeT P fd.type,compOpd x with
    | some (_+1),some x=>some (.fld fd.offset x)
    | _,_=>none
   | none=>none
  | _=>none
 | .indexAddr t x i=>match P.underlying t with
  | some (.slice e)=>match sizeT P e,compOpd x,compOpd i with
   | some k,some x,some i=>some (.idx k x i)
   | _,_,_=>none
  | some (.array m e)=>match sizeT P e,compOpd x,compOpd i with
   | some k,some x,some i=>some (.idxa m k x i)
   | _,_,_=>none
  | _=>none
 | .index t x i=>match P.underlying t with
  | some .string=>match compOpd x,compOpd i with
   | some x,some i=>some (.idxs x i)
   | _,_=>none
  | some (.array m e)=>match isAggT P e,sizeT P e,compOpd x,compOpd i with
   | some g,some k,some x,some i=>some (.idxv g m k x i)
   | _,_,_,_=>none
  | _=>none
 | .makeMap t none=>match mapT P t with
  | some (_,_,kk,_)=>some (.mkmap kk)
  | none=>none
 | .lookup t x i ok=>match mapT P t,compOpd x,compOpd i with
  | some (_,_,kk,z),some x,some i=>match pol.fam with
   | true=>some (.lkpF ok kk z x i)
   | false=>some (.lkp ok kk z x i)
  | _,_,_=>none
 | .mapUpdate t m x v=>match mapT P t,compOpd m,compOpd x,compOpd v with
  | some (_,_,kk,_),some m,some x,some v=>match pol.fam with
   | true=>some (.mupdF kk m x v)
   | false=>some (.mupd kk m x v)
  | _,_,_,_=>none
 | .range t x=>match P.underlying t with
  | some .string=>(compOpd x).map MOp.rng
  | _=>none
 | .next x true=>(compOpd x).map MOp.nxt
 | .binOp op t x0 y0 _=>match P.underlying t,compOpd x0,compOpd y0 with
  | some .bool,some x,some y=>match op with
   | .eql=>some (.eqb false x y)
   | .neq=>some (.eqb true x y)
   | _=>none
  | some (.int _),some x,some y=>some (.bin op x y)
  | some .string,some x,some y=>some (.bin op x y)
  | some (.slice _),some x,some _=>match isNilC y0,op with
   | true,.eql=>some (.eqn false x)
   | true,.neq=>some (.eqn true x)
   | _,_=>none
  | some (.interface _),some x,some _=>match isNilI y0,op with
   | true,.eql=>some (.eqi false x)
   | true,.neq=>some (.eqi true x)
   | _,_=>none
  | some (.struct _),some x,some y=>match flatT P t,op with
   | some n,.eql=>some (.eqs false n x y)
   | some n,.neq=>some (.eqs true n x y)
   | _,_=>none
  | _,_,_=>none
 | .unOp .not _ x=>(compOpd x).map MOp.not
 | .convert s d x=>match P.underlying s,P.underlying d with
  | some (.int _),some (.int k)=>(compOpd x).map (MOp.conv k)
  | some (.slice e),some .string=>match P.underlying e with
   | some (.int .u8)=>(compOpd x).map MOp.b2s
   | _=>none
  | _,_=>none
 | .call c=>match c.callee with
  | .builtin .len=>match c.args.toList,c.argTypes.toList with
   | [x],[t]=>match P.underlying t with
    | some (.slice _)=>(compOpd x).map (MOp.len false)
    | some .string=>(compOpd x).map (MOp.len true)
    | some (.map _ _)=>(compOpd x).map MOp.lenm
    | _=>none
   | _,_=>none
  | .builtin .min=>match c.args.toList with
   | [x,y]=>match compOpd x,compOpd y with
    | some x,some y=>some (.mm false x y)
    | _,_=>none
   | _=>none
  | .builtin .max=>match c.args.toList with
   | [x,y]=>match compOpd x,compOpd y with
    | some x,some y=>some (.mm true x y)
    | _,_=>none
   | _=>none
  | .builtin .append=>match c.args.toList,c.argTypes.toList with
   | [x,y],[t,t']=>match Nat.beq t t',elemT P t,compOpd x,compOpd y with
    | true,some (_,k,bytes,_),some x,some y=>match pol.fam with
     | true=>some (.appF k bytes x y)
     | false=>some (.app pol.mt k bytes x y)
    | _,_,_,_=>none
   | _,_=>none
  | .value (.func f)=>match P.funcs[f]? with
   | some fn=>match fn.body.isSome&&!(fn.name == "runtime.NumGoroutine") with
    | true=>match pol.sub.contains f with
     | true=>(compOpds c.args.toList).map (MOp.sub f)
     | false=>(compOpds c.args.toList).map (MOp.call f)
    | false=>none
   | none=>none
  | .value (.tmp t)=>(compOpds c.args.toList).map (MOp.subv (.t t))
  | .builtin .copy=>match c.args.toList,c.argTypes.toList with
   | [x,y],[t,t']=>match elemT P t,P.underlying t',compOpd x,compOpd y with
    | some (_,k,_,_),some (.slice _),some x,some y=>some (.copy k x y)
    | _,_,_,_=>none
   | _,_=>none
  | _=>none
 | .makeFunc (.func f) fs cs=>match compOpds fs.toList,compOpds cs.toList with
  | some fs,some cs=>some (.mkfn f fs cs)
  | _,_=>none
 | .defer c=>match c.callee with
  | .value (.tmp t)=>(compOpds c.args.toList).map (MOp.defer (.t t))
  | .value (.func f)=>(compOpds c.args.toList).map (MOp.defer (.c (.func f)))
  | _=>none
 | .panic x=>(compOpd x).map MOp.panic
 | .makeInterface t x=>match concT P t,compOpd x with
  | true,some x=>some (.mkif t x)
  | _,_=>none
 | .typeAssert x _ t true=>match concT P t,zeroV P t,compOpd x with
  | true,some z,some x=>some (.tas t z x)
  | _,_,_=>none
 | .extract x i=>(compOpd x).map (MOp.ext · i)
 | .field s x f=>match P.underlying s with
  | some (.struct fs)=>match fs[f]? with
   | some fd=>match isAggT P fd.type,sizeT P fd.type,compOpd x with
    | some g,some k,some x=>some (.fldv g k fd.offset x)
    | _,_,_=>none
   | none=>none
  | _=>none
 | .buildSlice t len ps=>match elemT P t,compBs ps.toList with
  | some (_,k,_,zs),some qs=>match Nat.ble (len * k) 16777216 with
   | true=>match pol.sub.contains 1000001&&Nat.blt 0 len with
    | true=>some (.rowlit len ((List.replicate len zs).flatten) (qs.map fun y=>(y.1 * k,k,y.2)))
    | false=>some (.bslice k len zs qs)
   | false=>none
  | _,_=>none
 | .makeSlice t l cp=>match elemT P t,compOpd l,compOpd cp with
  | some (e,k,bytes,zs),some l,some cp=>match pol.fam&&refT P e&&Nat.beq k 1,zs with
   | true,[z]=>some (.mkslF bytes z l cp)
   | _,_=>some (.mksl pol.mt k bytes zs l cp)
  | _,_,_=>none
 | .slice t x lo hi none=>match P.underlying t with
  | some .string=>match compOpd x,compOpt lo,compOpt hi with
   | some x,some lo,some hi=>some (.slstr x lo hi)
   | _,_,_=>none
  | some (.slice e)=>match sizeT P e,compOpd x,compOpt lo,compOpt hi with
   | some k,some x,some lo,some hi=>some (.sl k x lo hi)
   | _,_,_,_=>none
  | _=>none
 | .slice t x lo (some hi) (some mx)=>match P.underlying t with
  | some (.slice e)=>match sizeT P e,compOpd x,compOpt lo,compOpd hi,compOpd mx with
   | some k,some x,some lo,some hi,some mx=>some (.sl3 k x lo hi mx)
   | _,_,_,_,_=>none
  | _=>none
 | _=>none
def compG (ops:List Oper):Option (Nat×Bool)→Option (Option (Nat×Bool))
 | none=>some none
 | some (j,b)=>match ops[j]? with
  | some o=>match o.dst with
   | some d=>some (some (d,b))
   | none=>none
  | none=>none
def compOps (P:Program) (n:Nat) (pol:Pol) (ops:List Oper):List Oper→Option (List MI)
 | []=>some []
 | o::r=>match compG ops o.guard,compOp P pol o,compOps P n pol ops r,(match o.dst with|some d=>Nat.blt d n|none=>true) with
  | some g,some m,some l,true=>some (⟨g,o.dst,m⟩::l)
  | _,_,_,_=>none
def quietOp:MOp→Bool
 | .mov _ | .pick _ _ _ | .build _ _ | .load _ _ _ | .fld _ _ | .nilck _ | .idx _ _ _ | .idxs _ _ | .len _ _ | .bin _ _ _ | .eqb _ _ _ | .not _ | .conv _ _ | .call _ _ | .ext _ _ | .bslice _ _ _ _ | .sl _ _ _ _ | .slstr _ _ _ | .idxa _ _ _ _ | .eqs _ _ _ _ | .mm _ _ _ | .lkp _ _ _ _ _ | .lenm _ | .idxv _ _ _ _ _ | .b2s _ | .fldv _ _ _ _ | .sl3 _ _ _ _ _ | .loadF _ | .lkpF _ _ _ _ _=>true
 | _=>false
def Opd.tmps:Opd→List Nat
 | .t n=>[n]
 | .c _=>[]
def opdsTmps:List Opd→List Nat
 | []=>[]
 | x::r=>x.tmps++opdsTmps r
def partsTmps:List (Nat×Nat×Opd)→List Nat
 | []=>[]
 | (_,_,x)::r=>x.tmps++partsTmps r
def bsTmps:List (Nat×Opd)→List Nat
 | []=>[]
 | (_,x)::r=>x.tmps++bsTmps r
def optTmps:Option Opd→List Nat
 | none=>[]
 | some x=>x.tmps
def MOp.tmps:MOp→List Nat
 | .mov x=>x.tmps
 | .pick c a b=>c.tmps++a.tmps++b.tmps
 | .build _ ps=>partsTmps ps
 | .load _ _ a=>a.tmps
 | .fld _ a=>a.tmps
 | .nilck x=>x.tmps
 | .idx _ s i=>s.tmps++i.tmps
 | .idxs s i=>s.tmps++i.tmps
 | .len _ s=>s.tmps
 | .bin _ x y=>x.tmps++y.tmps
 | .eqb _ x y=>x.tmps++y.tmps
 | .not x=>x.tmps
 | .conv _ x=>x.tmps
 | .call _ xs=>opdsTmps xs
 | .ext x _=>x.tmps
 | .bslice _ _ _ ps=>bsTmps ps
 | .sl _ x lo hi=>x.tmps++optTmps lo++optTmps hi
 | .slstr x lo hi=>x.tmps++optTmps lo++optTmps hi
 | .idxa _ _ x i=>x.tmps++i.tmps
 | .eqs _ _ x y=>x.tmps++y.tmps
 | .eqn _ x=>x.tmps
 | .eqi _ x=>x.tmps
 | .sub _ xs=>opdsTmps xs
 | .subv x xs=>x.tmps++opdsTmps xs
 | .mkfn _ xs ys=>opdsTmps xs++opdsTmps ys
 | .defer x xs=>x.tmps++opdsTmps xs
 | .panic x=>x.tmps
 | .mkif _ x=>x.tmps
 | .tas _ _ x=>x.tmps
 | .copy _ x y=>x.tmps++y.tmps
 | .box x=>x.tmps
 | .alloc _=>[]
 | .store _ a x=>a.tmps++x.tmps
 | .app _ _ _ s x=>s.tmps++x.tmps
 | .mksl _ _ _ _ l c=>l.tmps++c.tmps
 | .mm _ x y=>x.tmps++y.tmps
 | .mkmap _=>[]
 | .lkp _ _ _ m x=>m.tmps++x.tmps
 | .mupd _ m x v=>m.tmps++x.tmps++v.tmps
 | .lenm m=>m.tmps
 | .rng x=>x.tmps
 | .nxt x=>x.tmps
 | .idxv _ _ _ x i=>x.tmps++i.tmps
 | .b2s x=>x.tmps
 | .fldv _ _ _ x=>x.tmps
 | .sl3 _ x lo hi mx=>x.tmps++optTmps lo++hi.tmps++mx.tmps
 | .loadF a=>a.tmps
 | .storeF a x=>a.tmps++x.tmps
 | .mkslF _ _ l c=>l.tmps++c.tmps
 | .appF _ _ s x=>s.tmps++x.tmps
 | .lkpF _ _ _ m x=>m.tmps++x.tmps
 | .mupdF _ m x v=>m.tmps++x.tmps++v.tmps
 | .rowlit _ _ ps=>partsTmps ps
def MI.tmps (i:MI):List Nat:=(match i.g with|some (t,_)=>[t]|none=>[])++i.op.tmps
def canon (h m:Nat):Array Bool:=((List.range m).map fun i=>decide (i<h)).toArray
def seesB (ops:List Oper) (mi:List MI) (i j:Nat):Bool:=
 match mi[i]?,mi[j]? with
 | some a,some b=>match b.dst with
  | some t=>(a.dst != some t)&&(!(a.tmps.contains t)||(if j<i then Region.waitsFor .any ops.toArray i j else Region.waitsFor .any ops.toArray j i))
  | none=>true
 | _,_=>false
def drawB (ops:List Oper) (mi:List MI) (h:Nat):Bool:=
 decide (h≤ops.length)&&((mi.take h).all fun i=>quietOp i.op)&&
 ((List.range h).all fun i=>match ops[i]? with|some o=>o.after.all (fun e=>!Region.binds .any e||decide (e.on<i))|none=>false)&&
 ((List.range h).all fun i=>(List.range h).all fun j=>(i == j)||seesB ops mi i j)&&
 (h == ops.length||(Region.sinkB .any ops.toArray h&&Region.chainB .any ops.toArray h))&&
 Region.seqB .any ops.toArray (ops.length - h) h (canon h ops.length)
def headLen (l:List MI):Nat:=(l.takeWhile fun i=>quietOp i.op).length
def depsOf (o:Oper):List Nat:=(o.after.toList.filter fun e=>Region.binds .any e).map (·.on)
def mkDraw:List Oper→List MI→List DOp
 | o::r,i::r'=>⟨i,depsOf o,!quietOp i.op⟩::mkDraw r r'
 | _,_=>[]
def sees2 (mi:List DOp) (i j:Nat):Bool:=
 match mi[i]?,mi[j]? with
 | some a,some b=>match b.mi.dst with
  | some t=>(a.mi.dst != some t)&&(!(a.mi.tmps.contains t)||(decide (j<i)&&memN a.dep j))
  | none=>true
 | _,_=>false
def selfB (o:DOp):Bool:=
 match o.mi.dst with
 | some t=>!(o.mi.tmps.contains t)
 | none=>true
def drawB2 (l:List DOp):Bool:=
 ((List.range l.length).all fun i=>match l[i]? with|some o=>o.dep.all (fun j=>decide (j<i))&&(!o.loud||o.mi.g.isNone)&&selfB o|none=>false)&&
 ((List.range l.length).all fun i=>(List.range l.length).all fun j=>(i == j)||sees2 l i j)
def countLoud:List DOp→Nat
 | []=>0
 | o::r=>match o.loud with
  | true=>countLoud r+1
  | false=>countLoud r
def comp (P:Program) (n:Nat) (pol:Pol):Code→Option MCode
 | .skip=>some .skip
 | .region _ ops false=>(compOps P n pol ops.toList ops.toList).map MCode.ops
 | .region _ ops true=>match P.follows .mixedOrders,compOps P n pol ops.toList ops.toList with
  | true,some l=>match drawB ops.toList l (headLen l) with
   | true=>some (.ops l)
   | false=>match drawB2 (mkDraw ops.toList l) with
    | true=>some (.draw (countLoud (mkDraw ops.toList l)) (mkDraw ops.toList l))
    | false=>none
  | _,_=>none
 | .seq a b=>match comp P n pol a,comp P n pol b with
  | some a,some b=>some (.seq a b)
  | _,_=>none
 | .cond c x y=>match compOpd c,comp P n pol x,comp P n pol y with
  | some c,some x,some y=>some (.cond c x y)
  | _,_,_=>none
 | .block id c=>(comp P n pol c).map (MCode.block id)
 | .loop c=>(comp P n pol c).map MCode.loop
 | .exit id=>some (.exit id)
 | .ret=>some .ret
 | _=>none
end Uw
namespace Uw
open Go Go.RowKit
def one:Value→Bool
 | .agg _ | .tuple _=>false
 | _=>true
mutual
def RelI (w:World) (J:Nat→Nat→Prop):Dat→Value→Prop
 | .bool b,v=>v = .bool b
 | .int k n,v=>v = .int k n
 | .str s,v=>v = .string ⟨s.toArray⟩
 | .nil,v=>v = .slice none 0 0
 | .slice k xs z,v=>((∃x:Option Addr,v = .slice x 0 0∧(z=true→True))∧xs=[])∨∃b o cap,v = .slice (some ⟨b,o,none⟩) xs.length cap∧xs.length≤cap∧(z=true→cap=xs.length)∧RelE w J b k o xs
 | .agg cs,v=>∃vs:List Value,v = .agg vs.toArray∧RelL w J cs vs
 | .func f,v=>v = .func (.func f) #[] #[]
 | .nilFunc,v=>v = .nilFunc
 | .nilIface,v=>v = .nilIface
 | .nilPtr,v=>v = .pointer none
 | .nilMap,v=>v = .map none
 | .iface t d,v=>∃u,v = .iface t u∧RelI w J d u
 | .tuple ds,v=>∃vs:List Value,v = .tuple vs.toArray∧RelL w J ds vs
def RelL (w:World) (J:Nat→Nat→Prop):List Dat→List Value→Prop
 | [],vs=>vs=[]
 | d::ds,vs=>∃v vs',vs=v::vs'∧RelI w J d v∧RelL w J ds vs'
def RelC (w:World) (J:Nat→Nat→Prop) (b:Nat):Nat→List Dat→Prop
 | _,[]=>True
 | o,d::ds=>(∃v,w.cell? ⟨b,o,none⟩=some v∧J b o∧one v=true∧RelI w J d v)∧RelC w J b (o+1) ds
def RelE (w:World) (J:Nat→Nat→Prop) (b k:Nat):Nat→List (List Dat)→Prop
 | _,[]=>True
 | o,c::cs=>c.length=k∧RelC w J b o c∧RelE w J b k (o+k) cs
end
def Keeps (w w' : World) (J J' : Nat→Nat→Prop):Prop:=∀b o,J b o→J' b o∧w'.cell? ⟨b,o,none⟩=w.cell? ⟨b,o,none⟩
mutual
theorem RelI.keep {w w' : World} {J J' : Nat→Nat→Prop} (h:Keeps w w' J J'):∀(d:Dat) (v:Value),RelI w J d v→RelI w' J' d v
 | .bool b,v,r=>r
 | .int k n,v,r=>r
 | .str s,v,r=>r
 | .nil,v,r=>r
 | .slice k xs z,v,.inl r=>.inl r
 | .slice k xs z,v,.inr ⟨b,o,cap,h1,h2,h3,h4⟩=>.inr ⟨b,o,cap,h1,h2,h3,RelE.keep h b k o xs h4⟩
 | .agg cs,v,⟨vs,h1,h2⟩=>⟨vs,h1,RelL.keep h cs vs h2⟩
 | .func f,v,r=>r
 | .nilFunc,v,r=>r
 | .nilIface,v,r=>r
 | .nilPtr,v,r=>r
 | .nilMap,v,r=>r
 | .iface t d,v,⟨u,h1,h2⟩=>⟨u,h1,RelI.keep h d u h2⟩
 | .tuple ds,v,⟨vs,h1,h2⟩=>⟨vs,h1,RelL.keep h ds vs h2⟩
theorem RelL.keep {w w' : World} {J J' : Nat→Nat→Prop} (h:Keeps w w' J J'):∀(ds:List Dat) (vs:List Value),RelL w J ds vs→RelL w' J' ds vs
 | [],vs,r=>r
 | d::ds,vs,⟨v,vs',h1,h2,h3⟩=>⟨v,vs',h1,RelI.keep h d v h2,RelL.keep h ds vs' h3⟩
theorem RelC.keep {w w' : World} {J J' : Nat→Nat→Prop} (h:Keeps w w' J J') (b:Nat):∀(o:Nat) (ds:List Dat),RelC w J b o ds→RelC w' J' b o ds
 | o,[],_=>trivial
 | o,d::ds,⟨⟨v,h1,h2,h5,h3⟩,h4⟩=>⟨⟨v,by rw [(h b o h2).2];exact h1,(h b o h2).1,h5,RelI.keep h d v h3⟩,RelC.keep h b (o+1) ds h4⟩
theorem RelE.keep {w w' : World} {J J' : Nat→Nat→Prop} (h:Keeps w w' J J') (b k:Nat):∀(o:Nat) (cs:List (List Dat)),RelE w J b k o cs→RelE w' J' b k o cs
 | o,[],_=>trivial
 | o,c::cs,⟨h1,h2,h3⟩=>⟨h1,RelC.keep h b o c h2,RelE.keep h b k (o+k) cs h3⟩
end
class Glob where
 n:Nat
 p:World→Prop
 ok:∀(w w' : World),(∀k,k<n→w'.heap[k]? = w.heap[k]?)→p w→p w'
def GOk [Glob] (B:Nat) (w:World):Prop:=B≤w.heap.size∧Glob.n≤B∧Glob.p w
variable [Glob]
def Ret (P:Program) (f:FuncId) (args:List Dat) (r:Dat):Prop:=
 ∀(w:World) (J:Nat→Nat→Prop) (vs:List Value),GOk w.heap.size w→RelL w J args vs→
  Calls P f vs.toArray w fun e w'=>∃v,e = .returned v∧RelI w' (fun b o=>J b o∨(w.heap.size≤b∧b<w'.heap.size)) r v∧Below w.heap.size w w'
structure Pl where
 gb:Nat
 cap:Nat
def Ph (p:Pl):Blk→Prop
 | .arr _ _=>0<p.cap
 | .mt _ _ _=>0<p.cap
 | _=>True
structure JX where
 J:Nat→Nat→Prop
 X:Nat→Prop
structure Cx where
 B:Nat
 J0:JX
 heap:Heap
 pl:Nat→Pl
 w:World
def Cx.Old (c:Cx) (b:Nat):Prop:=b<c.B∨c.J0.X b
def Imm (c:Cx) (b o:Nat):Prop:=
 (c.Old b∧c.J0.J b o)∨(¬c.Old b∧b<c.w.heap.size∧∀id blk,look c.heap id=some blk→Ph (c.pl id) blk→(c.pl id).gb=b→∃k xs,blk = .arr k xs∧o<xs.length * k)
def RelRef (c:Cx) (id ver off len:Nat) (gv:Value):Option Blk→Prop
 | some (.arr k xs)=>off+len≤xs.length∧((gv = .slice none 0 0∧len=0∧(off=xs.length→(c.pl id).cap=off))∨∃b o cap,gv = .slice (some ⟨b,o,none⟩) len cap∧len≤cap∧RelE c.w (Imm c) b k o ((xs.drop off).take len)∧
   (off+len=xs.length→cap=(c.pl id).cap - off∧(off<(c.pl id).cap→b=(c.pl id).gb∧o=off * k)))
 | some (.mt k ver' xs)=>ver≤ver'∧(∃x l cp,gv = .slice x l cp)∧(ver=ver'→off+len≤xs.length∧((gv = .slice none 0 0∧len=0∧off=0∧(c.pl id).cap=0)∨∃b o,gv = .slice (some ⟨b,o,none⟩) len ((c.pl id).cap - off)∧(off<(c.pl id).cap→b=(c.pl id).gb∧o=off * k)))
 | _=>False
def RelEptr (c:Cx) (id ver i cc:Nat) (gv:Value):Option Blk→Prop
 | some (.mt k ver' xs)=>ver≤ver'∧(∃x,gv = .pointer x)∧(ver=ver'→i<xs.length∧gv = .pointer (some ⟨(c.pl id).gb,i * k+cc,none⟩))
 | _=>False
def keyRel:Option IntKind→MKey→Value→Prop
 | some k,.i n,v=>v = .int k n
 | none,.s b,v=>v = .string ⟨b.toArray⟩
 | _,_,_=>False
def RelM (w:World) (J:Nat→Nat→Prop) (kk:Option IntKind):List (MKey×Dat)→List MapEntry→Prop
 | [],ms=>ms=[]
 | (k,d)::r,ms=>∃m ms',ms=m::ms'∧keyRel kk k m.key∧RelI w J d m.val∧RelM w J kk r ms'
theorem RelM.keep {w w' : World} {J J' : Nat→Nat→Prop} (h:Keeps w w' J J') {kk:Option IntKind}:∀(es:List (MKey×Dat)) (ms:List MapEntry),RelM w J kk es ms→RelM w' J' kk es ms
 | [],ms,r=>r
 | (k,d)::es,ms,⟨m,ms',h1,h2,h3,h4⟩=>⟨m,ms',h1,h2,RelI.keep h d _ h3,RelM.keep h es ms' h4⟩
def RelHnd (c:Cx) (id:Nat) (gv:Value):Option Blk→Prop
 | some (.map _ _)=>gv = .map (some (c.pl id).gb)
 | some (.iter _ _)=>gv = .pointer (some ⟨(c.pl id).gb,0,none⟩)
 | _=>False
mutual
def RelV (c:Cx):V→Value→Prop
 | .d x,v=>RelI c.w (Imm c) x v
 | .ptr id off,v=>(∃cs,look c.heap id=some (.var cs))∧v = .pointer (some ⟨(c.pl id).gb,off,none⟩)
 | .ro cs off,v=>∃b o,v = .pointer (some ⟨b,o+off,none⟩)∧RelC c.w (Imm c) b o cs
 | .eptr id ver i cc,v=>RelEptr c id ver i cc v (look c.heap id)
 | .ref id ver off len,v=>RelRef c id ver off len v (look c.heap id)
 | .agg cs,v=>∃vs:List Value,v = .agg vs.toArray∧RelVL c cs vs
 | .func f first cap,v=>∃fs vs:List Value,v = .func (.func f) fs.toArray vs.toArray∧RelVL c first fs∧RelVL c cap vs
 | .tuple ds,v=>∃vs:List Value,v = .tuple vs.toArray∧RelVL c ds vs
 | .hnd id,v=>RelHnd c id v (look c.heap id)
 | .row id len,v=>(∃cs,look c.heap id=some (.var cs))∧v = .slice (some ⟨(c.pl id).gb,0,none⟩) len len∧0<len
 | .undef,_=>True
def RelVL (c:Cx):List V→List Value→Prop
 | [],vs=>vs=[]
 | d::ds,vs=>∃v vs',vs=v::vs'∧RelV c d v∧RelVL c ds vs'
end
def BlkRel (c:Cx) (id:Nat):Blk→Prop
 | .var cs=>∃vs e,c.w.heap[(c.pl id).gb]? = some (.cells vs e (0,0))∧RelVL c cs vs.toList
 | .arr k xs=>xs.length≤(c.pl id).cap∧(0<(c.pl id).cap→∃vs e,c.w.heap[(c.pl id).gb]? = some (.cells vs e (0,0))∧vs.size=(c.pl id).cap * k∧RelE c.w (Imm c) (c.pl id).gb k 0 xs)
 | .mt k _ xs=>xs.length≤(c.pl id).cap∧(∀x∈xs,x.length=k)∧(0<(c.pl id).cap→∃vs e,c.w.heap[(c.pl id).gb]? = some (.cells vs e (0,0))∧vs.size=(c.pl id).cap * k∧
   RelL c.w (Imm c) xs.flatten (vs.toList.take (xs.length * k))∧∀v∈vs.toList.take (xs.length * k),one v=true)
 | .iter s pos=>c.w.heap[(c.pl id).gb]? = some (.stringIter ⟨s.toArray⟩ pos)
 | .map kk es=>∃ms clock,c.w.heap[(c.pl id).gb]? = some (.map ms clock)∧RelM c.w (Imm c) kk es ms.toList
def RelRegs (c:Cx) (r:Regs) (t:Array Value):Prop:=∀i v,look r i=some v→RelV c v (t.getD i undef)
def RelDefers (c:Cx):List V→List Deferred→Prop
 | [],ds=>ds=[]
 | v::vs,ds=>∃d ds' f first cap fs cs,ds=d::ds'∧v = .func f first cap∧d={ target:=.fn (.func f) cs.toArray,args:=fs.toArray }∧RelVL c first fs∧RelVL c cap cs∧RelDefers c vs ds'
structure HRel (c:Cx) (w0:World) (next:Nat):Prop where
 below:Below c.B w0 c.w
 other:∀b,c.J0.X b→b<w0.heap.size∧c.w.heap[b]? = w0.heap[b]?
 size0:GOk c.B w0
 blk:∀id b,look c.heap id=some b→BlkRel c id b
 lt:∀id b,look c.heap id=some b→id<next
 ge:∀id b,look c.heap id=some b→Ph (c.pl id) b→¬c.Old (c.pl id).gb
 inj:∀id id' b b',look c.heap id=some b→look c.heap id' = some b'→Ph (c.pl id) b→Ph (c.pl id') b'→(c.pl id).gb=(c.pl id').gb→id=id'
def BlkEvo (p p' : Pl):Blk→Blk→Prop
 | .var _,.var _=>p.gb=p'.gb
 | .arr k xs,.arr k' xs'=>k=k'∧(∃ys,xs' = xs++ys)∧(xs' = xs→p' = p)
 | .mt k ver xs,.mt k' ver' xs'=>k=k'∧ver≤ver'∧(ver' = ver→p' = p∧xs'.length=xs.length)
 | .iter _ _,.iter _ _=>p.gb=p'.gb
 | .map kk _,.map kk' _=>kk=kk'∧p.gb=p'.gb
 | _,_=>False
structure EvoK (K:Nat) (c c' : Cx):Prop where
 keeps:Keeps c.w c'.w (Imm c) (Imm c')
 blks:∀id b,id<K→look c.heap id=some b→∃b',look c'.heap id=some b'∧BlkEvo (c.pl id) (c'.pl id) b b'
structure Evo (c c' : Cx):Prop where
 keeps:Keeps c.w c'.w (Imm c) (Imm c')
 blks:∀id b,look c.heap id=some b→∃b',look c'.heap id=some b'∧BlkEvo (c.pl id) (c'.pl id) b b'
theorem Evo.toK {c c' : Cx} (h:Evo c c') (K:Nat):EvoK K c c':=⟨h.keeps,fun id b _ hb=>h.blks id b hb⟩
structure Fr where
 K:Nat
 p:Cx→Prop
 ok:∀c c',EvoK K c c'→p c→p c'
def Fr.none:Fr:=⟨0,fun _=>True,fun _ _ _ _=>trivial⟩
structure Rel (c:Cx) (w0:World) (n:Nat) (gs:Fr) (st:St) (a:Act):Prop where
 heap:c.heap=st.heap
 hrel:HRel c w0 st.next
 size:a.tmps.size=n
 regs:RelRegs c st.regs a.tmps
 frames:gs.p c
 fbase:gs.K≤st.base
 base:st.base≤st.next
 defers:RelDefers c st.defers a.defers
theorem RelRef.evo {K:Nat} {c c' : Cx} (h:EvoK K c c') {id ver off len:Nat} (hK:id<K) {gv:Value} (r:RelRef c id ver off len gv (look c.heap id)):RelRef c' id ver off len gv (look c'.heap id):=by
 cases hl:look c.heap id with
 | none=>rw [hl] at r;exact r.elim
 | some b=>
  obtain ⟨b',hb',he⟩:=h.blks id b hK hl
  rw [hl] at r
  rw [hb']
  cases b with
  | var cs=>exact r.elim
  | iter s p=>exact r.elim
  | map kk es=>exact r.elim
  | arr k xs=>
   cases b' with
   | arr k' xs'=>
    obtain ⟨rfl,⟨ys,rfl⟩,hp⟩:=he
    obtain ⟨h1,r⟩:=r
    have hys:off+len=(xs++ys).length→ys=[]:=by
     intro hlen
     simp at hlen
     exact List.eq_nil_of_length_eq_zero (by omega)
    refine ⟨by simp;omega,?_⟩
    rcases r with ⟨r1,r2,r3⟩|⟨b0,o,cap,h2,h3,h4,h5⟩
    ·refine .inl ⟨r1,r2,fun hlen=>?_⟩
     have:=hys (by omega)
     subst this
     simp at hp hlen
     rw [hp];exact r3 hlen
    ·refine .inr ⟨b0,o,cap,h2,h3,?_,?_⟩
     ·have:((xs++ys).drop off).take len=(xs.drop off).take len:=by
       rw [List.drop_append_of_le_length (by omega),List.take_append_of_le_length (by simp;omega)]
      rw [this]
      exact RelE.keep h.keeps _ _ _ _ h4
     ·intro hlen
      have:=hys hlen
      subst this
      simp at hp
      rw [hp]
      exact h5 (by simpa using hlen)
   | _=>exact he.elim
  | mt k v xs=>
   cases b' with
   | mt k' v' xs'=>
    obtain ⟨rfl,hle,hp⟩:=he
    obtain ⟨r1,r3,r2⟩:=r
    refine ⟨Nat.le_trans r1 hle,r3,fun hv=>?_⟩
    have hvv:v' = v:=by omega
    obtain ⟨hp1,hp2⟩:=hp hvv
    rw [hp1,hp2]
    exact r2 (by omega)
   | _=>exact he.elim
theorem RelEptr.evo {K:Nat} {c c' : Cx} (h:EvoK K c c') {id ver i cc:Nat} (hK:id<K) {gv:Value} (r:RelEptr c id ver i cc gv (look c.heap id)):RelEptr c' id ver i cc gv (look c'.heap id):=by
 cases hl:look c.heap id with
 | none=>rw [hl] at r;exact r.elim
 | some b=>
  obtain ⟨b',hb',he⟩:=h.blks id b hK hl
  rw [hl] at r
  rw [hb']
  cases b with
  | var cs=>exact r.elim
  | iter s p=>exact r.elim
  | map kk es=>exact r.elim
  | arr k xs=>exact r.elim
  | mt k v xs=>
   cases b' with
   | mt k' v' xs'=>
    obtain ⟨rfl,hle,hp⟩:=he
    obtain ⟨r1,r3,r2⟩:=r
    refine ⟨Nat.le_trans r1 hle,r3,fun hv=>?_⟩
    have hvv:v' = v:=by omega
    obtain ⟨hp1,hp2⟩:=hp hvv
    rw [hp1,hp2]
    exact r2 (by omega)
   | _=>exact he.elim
theorem RelHnd.evo {K:Nat} {c c' : Cx} (h:EvoK K c c') {id:Nat} (hK:id<K) {gv:Value} (r:RelHnd c id gv (look c.heap id)):RelHnd c' id gv (look c'.heap id):=by
 cases hl:look c.heap id with
 | none=>rw [hl] at r;exact r.elim
 | some b=>
  obtain ⟨b',hb',he⟩:=h.blks id b hK hl
  rw [hl] at r
  rw [hb']
  cases b with
  | iter s p=>
   cases b' with
   | iter s' p'=>simp only [BlkEvo] at he;simp only [RelHnd] at r ⊢;rw [← he];exact r
   | _=>exact he.elim
  | map kk es=>
   cases b' with
   | map kk' es'=>simp only [BlkEvo] at he;simp only [RelHnd] at r ⊢;rw [← he.2];exact r
   | _=>exact he.elim
  | _=>exact r.elim
theorem BlkEvo.gb_var {p p' : Pl} {b b' : Blk} (h:BlkEvo p p' b b') (hv:∃cs,b = .var cs):p.gb=p'.gb∧∃cs,b' = .var cs:=by
 obtain ⟨cs,rfl⟩:=hv
 cases b' with
 | var cs'=>exact ⟨h,cs',rfl⟩
 | _=>exact h.elim
mutual
def V.lt (K:Nat):V→Prop
 | .ptr id _=>id<K
 | .eptr id _ _ _=>id<K
 | .ref id _ _ _=>id<K
 | .agg cs=>ltL K cs
 | .func _ fs cs=>ltL K fs∧ltL K cs
 | .tuple cs=>ltL K cs
 | .d _=>True
 | .ro _ _=>True
 | .hnd id=>id<K
 | .row id _=>id<K
 | .undef=>True
def ltL (K:Nat):List V→Prop
 | []=>True
 | v::r=>v.lt K∧ltL K r
end
mutual
theorem RelV.lt {c:Cx} {K:Nat} (h:∀id b,look c.heap id=some b→id<K):∀(x:V) (v:Value),RelV c x v→x.lt K
 | .d x,v,r=>trivial
 | .ptr id off,v,⟨⟨cs,h1⟩,_⟩=>h id _ h1
 | .ro cs off,v,_=>trivial
 | .eptr id ver i cc,v,r=>by
  simp only [RelV] at r
  cases hl:look c.heap id with
  | none=>rw [hl] at r;exact r.elim
  | some b=>exact h id b hl
 | .ref id ver off len,v,r=>by
  simp only [RelV] at r
  cases hl:look c.heap id with
  | none=>rw [hl] at r;exact r.elim
  | some b=>exact h id b hl
 | .agg cs,v,⟨vs,h1,h2⟩=>RelVL.lt h cs vs h2
 | .func f fs cs,v,⟨us,vs,h1,h2,h3⟩=>⟨RelVL.lt h fs us h2,RelVL.lt h cs vs h3⟩
 | .tuple ds,v,⟨vs,h1,h2⟩=>RelVL.lt h ds vs h2
 | .hnd id,v,r=>by
  simp only [RelV] at r
  cases hl:look c.heap id with
  | none=>rw [hl] at r;exact r.elim
  | some b=>exact h id b hl
 | .row id len,v,⟨⟨cs,h1⟩,_⟩=>h id _ h1
 | .undef,v,r=>trivial
theorem RelVL.lt {c:Cx} {K:Nat} (h:∀id b,look c.heap id=some b→id<K):∀(xs:List V) (vs:List Value),RelVL c xs vs→ltL K xs
 | [],vs,r=>trivial
 | d::ds,vs,⟨v,vs',h1,h2,h3⟩=>⟨RelV.lt h d v h2,RelVL.lt h ds vs' h3⟩
end
mutual
theorem RelV.evoK {K:Nat} {c c' : Cx} (h:EvoK K c c'):∀(x:V) (v:Value),x.lt K→RelV c x v→RelV c' x v
 | .d x,v,_,r=>RelI.keep h.keeps x v r
 | .ptr id off,v,hK,r=>by
  obtain ⟨⟨cs,h1⟩,h2⟩:=r
  obtain ⟨b',hb',he⟩:=h.blks id _ hK h1
  obtain ⟨hg,cs',rfl⟩:=he.gb_var ⟨cs,rfl⟩
  exact ⟨⟨cs',hb'⟩,by rw [← hg];exact h2⟩
 | .ro cs off,v,_,⟨b,o,h1,h2⟩=>⟨b,o,h1,RelC.keep h.keeps _ _ _ h2⟩
 | .eptr id ver i cc,v,hK,r=>RelEptr.evo h hK r
 | .ref id ver off len,v,hK,r=>RelRef.evo h hK r
 | .agg cs,v,hK,⟨vs,h1,h2⟩=>⟨vs,h1,RelVL.evoK h cs vs hK h2⟩
 | .func f fs cap,v,hK,⟨us,vs,h1,h2,h3⟩=>⟨us,vs,h1,RelVL.evoK h fs us hK.1 h2,RelVL.evoK h cap vs hK.2 h3⟩
 | .tuple ds,v,hK,⟨vs,h1,h2⟩=>⟨vs,h1,RelVL.evoK h ds vs hK h2⟩
 | .hnd id,v,hK,r=>RelHnd.evo h hK r
 | .row id len,v,hK,r=>by
  obtain ⟨⟨cs,h1⟩,h2,h3⟩:=r
  obtain ⟨b',hb',he⟩:=h.blks id _ hK h1
  obtain ⟨hg,cs',rfl⟩:=he.gb_var ⟨cs,rfl⟩
  exact ⟨⟨cs',hb'⟩,by rw [← hg];exact h2,h3⟩
 | .undef,v,_,r=>r
theorem RelVL.evoK {K:Nat} {c c' : Cx} (h:EvoK K c c'):∀(xs:List V) (vs:List Value),ltL K xs→RelVL c xs vs→RelVL c' xs vs
 | [],vs,_,r=>r
 | d::ds,vs,hK,⟨v,vs',h1,h2,h3⟩=>⟨v,vs',h1,RelV.evoK h d v hK.1 h2,RelVL.evoK h ds vs' hK.2 h3⟩
end
def topId:Heap→Nat
 | []=>0
 | (i,_)::r=>max (i+1) (topId r)
theorem look_top:∀(h:Heap) (id:Nat) (b:Blk),look h id=some b→id<topId h
 | [],id,b,hh=>by simp [look] at hh
 | (i,x)::r,id,b,hh=>by
  rw [look] at hh
  split at hh
  ·rename_i hb
   have:=Nat.eq_of_beq_eq_true hb
   subst this
   simp only [topId];omega
  ·have:=look_top r id b hh
   simp only [topId];omega
theorem RelV.evo {c c' : Cx} (h:Evo c c') (x:V) (v:Value) (r:RelV c x v):RelV c' x v:=RelV.evoK (h.toK (topId c.heap)) x v (RelV.lt (look_top c.heap) x v r) r
theorem RelVL.evo {c c' : Cx} (h:Evo c c') (xs:List V) (vs:List Value) (r:RelVL c xs vs):RelVL c' xs vs:=RelVL.evoK (h.toK (topId c.heap)) xs vs (RelVL.lt (look_top c.heap) xs vs r) r
theorem RelRegs.evo {c c' : Cx} (h:Evo c c') {r:Regs} {t:Array Value} (hr:RelRegs c r t):RelRegs c' r t:=fun i v hv=>RelV.evo h v _ (hr i v hv)
theorem RelDefers.evo {c c' : Cx} (h:Evo c c'):∀{vs:List V} {ds:List Deferred},RelDefers c vs ds→RelDefers c' vs ds
 | [],_,r=>r
 | v::vs,ds,⟨d,ds',f,first,cap,fs,cs,h1,h2,h3,h4,h6,h5⟩=>⟨d,ds',f,first,cap,fs,cs,h1,h2,h3,RelVL.evo h _ _ h4,RelVL.evo h _ _ h6,RelDefers.evo h h5⟩
theorem BlkRel.evo {c c' : Cx} (h:Evo c c') {id:Nat} {b:Blk} (hp:c'.pl id=c.pl id) (hw:Ph (c.pl id) b→c'.w.heap[(c.pl id).gb]? = c.w.heap[(c.pl id).gb]?) (r:BlkRel c id b):BlkRel c' id b:=by
 cases b with
 | var cs=>obtain ⟨vs,e,h1,h2⟩:=r;exact ⟨vs,e,by rw [hp,hw trivial];exact h1,RelVL.evo h _ _ h2⟩
 | arr k xs=>
  obtain ⟨h0,r⟩:=r
  refine ⟨by rw [hp];exact h0,fun hc=>?_⟩
  rw [hp] at hc ⊢
  obtain ⟨vs,e,h1,h2,h4⟩:=r hc
  exact ⟨vs,e,by rw [hw hc];exact h1,h2,RelE.keep h.keeps _ _ _ _ h4⟩
 | mt k v xs=>
  obtain ⟨h0,h4,r⟩:=r
  refine ⟨by rw [hp];exact h0,h4,fun hc=>?_⟩
  rw [hp] at hc ⊢
  obtain ⟨vs,e,h1,h2,h5,h6⟩:=r hc
  exact ⟨vs,e,by rw [hw hc];exact h1,h2,RelL.keep h.keeps _ _ h5,h6⟩
 | iter s p=>unfold BlkRel at *;rw [hp,hw trivial];exact r
 | map kk es=>obtain ⟨ms,k,h1,h2⟩:=r;exact ⟨ms,k,by rw [hp,hw trivial];exact h1,RelM.keep h.keeps _ _ h2⟩
theorem Rel.evo {c c' : Cx} {w0:World} {n:Nat} {gs:Fr} {st st' : St} {a:Act} (r:Rel c w0 n gs st a) (h:Evo c c') (hh:c'.heap=st'.heap) (hH:HRel c' w0 st'.next)
  (h1:st'.regs=st.regs) (h2:st'.base=st.base) (h3:st'.defers=st.defers) (h4:st.next≤st'.next):Rel c' w0 n gs st' a:=
 ⟨hh,hH,r.size,by rw [h1];exact r.regs.evo h,gs.ok c c' (h.toK _) r.frames,by rw [h2];exact r.fbase,by rw [h2];exact Nat.le_trans r.base h4,by rw [h3];exact r.defers.evo h⟩
end Uw
namespace Uw
open Go
def opNoD (o:Oper):Bool:=match o.op with
 | .defer _=>false
 | _=>true
def noD:Code→Bool
 | .region _ ops _=>ops.toList.all opNoD
 | .seq x y=>noD x&&noD y
 | .cond _ x y=>noD x&&noD y
 | .block _ x=>noD x
 | .loop x=>noD x
 | _=>true
structure WPS (P:Program) where
 W:Code→(Exit→Act→World→Prop)→Act→World→Prop
 dfr:Bool
 mono:∀{c Q Q' a w},W c Q a w→(∀e a w,Q e a w→Q' e a w)→W c Q' a w
 skip:∀{Q:Exit→Act→World→Prop} {a w},Q .normal a w→W .skip Q a w
 exit:∀{id:Nat} {Q:Exit→Act→World→Prop} {a w},Q (.exit id) a w→W (.exit id) Q a w
 ret:∀{Q:Exit→Act→World→Prop} {a w},Q .ret a w→W .ret Q a w
 seq:∀{x y Q a w},W x (Exit.then (W y Q) Q) a w→W (.seq x y) Q a w
 cond:∀{c:Operand} {x y:Code} {Q:Exit→Act→World→Prop} {a:Act} {w:World} {t:Bool},a.eval c = .bool t→(t=true→W x Q a w)→(t=false→W y Q a w)→W (.cond c x y) Q a w
 block:∀{id c Q a w},W c (Exit.inBlock id Q) a w→W (.block id c) Q a w
 loop:∀{c:Code} {Q:Exit→Act→World→Prop} {a:Act} {w:World} (I:Act→World→Prop) (μ:Act→World→Nat),I a w→(∀a w,I a w→W c (Exit.then (fun a' w'=>I a' w'∧μ a' w' < μ a w) Q) a w)→W (.loop c) Q a w
 list:∀{id:Nat} {ops:Array Oper} {Q:Exit→Act→World→Prop} {a w},¬LetsOut Q→(dfr=true∨ops.toList.all opNoD=true)→wpList P ops Q ops.toList a w→W (.region id ops false) Q a w
 any:∀{id:Nat} {ops:Array Oper} {Q:Exit→Act→World→Prop} {a:Act} {w:World},P.follows .mixedOrders=true→¬LetsOut Q→(dfr=true∨ops.toList.all opNoD=true)→
  wpAny P .any ops Q ops.size (Array.replicate ops.size false) a { w with drawn:=w.drawn+1 }→W (.region id ops true) Q a w
def plainW (P:Program):WPS P where
 W:=fun c Q a w=>Code.wp P c Q a w
 dfr:=true
 mono:=fun h hq=>Go.wp_mono h hq
 skip:=wp_skip
 exit:=wp_exit
 ret:=wp_ret
 seq:=wp_seq
 cond:=fun hc h1 h2=>wp_cond_split hc h1 h2
 block:=wp_block
 loop:=fun I μ h0 h=>wp_loop I μ h0 h
 list:=fun _ _ h=>wp_region_list h
 any:=fun hm _ _ h=>wp_region_any hm h
section
variable {P : Program} {Q : Exit → Act → World → Prop} {n l : Nat} {ops : Array Oper}
theorem opIn {o:Oper} {a:Act} {w:World} {K:Act→World→Prop} (hd:opNoD o=true) (h:o.wp P a w K Q):o.wpIn (Fence.wide.inRound l) n P a w K Q:=by
 refine ⟨fun _ _=>trivial,?_⟩
 rw [Oper.semAt_eq _ _ _ (fun c hc=>by simp [opNoD,hc] at hd)]
 unfold Oper.wp at h
 generalize (execOp a.eval o).run P w=r at h
 cases r with
 | ok nx w'=>
  cases nx with
  | enter f args=>
   rw [Oper.upon_enter] at h
   rw [Oper.uponIn_enter]
   refine ⟨fun hh=>by simp [Fence.inRound,Fence.wide] at hh,CallsIn.inRound l ((callsIn_wide (n:=n - 1)).2 (Calls.mono h ?_))⟩
   intro e w'' hh
   cases e<;>exact hh
  | row rw args=>
   refine ⟨fun hh=>by simp [Fence.inRound,Fence.wide] at hh,?_⟩
   intro c cs _
   obtain ⟨v,w'',h1,h2⟩:=h c cs
   exact ⟨v,w'',h1,stepsIn_wide.2 h2⟩
  | value v=>exact h
  | skip=>exact h
  | defer d=>exact h
  | _=>exact h.elim
 | halt s w'=>
  cases s<;>first|exact h|exact h.elim
theorem opsIn (hno:¬LetsOut Q):∀(L:List Oper),(∀o∈L,opNoD o=true)→∀(a:Act) (w:World),wpList P ops Q L a w→wpListIn (Fence.wide.inRound l) n P ops Q L a w
 | [],_,a,w,h=>h
 | o::L,hd,a,w,h=>by
  simp only [wpList] at h
  simp only [wpListIn]
  split at h
  ·rename_i hw
   rw [if_pos hw]
   rcases h with h|h
   ·exact opIn (hd o (by simp)) (Oper.wp_mono (fun a w h=>opsIn hno L (fun o ho=>hd o (by simp [ho])) a w h) h)
   ·exact (hno h.2).elim
  ·rename_i hw
   rw [if_neg hw]
   exact ⟨fun _ _=>trivial,opsIn hno L (fun o ho=>hd o (by simp [ho])) _ _ h⟩
theorem anyIn {md:Region.Mode} (hno:¬LetsOut Q) (hd:∀o∈ops.toList,opNoD o=true):∀(fuel:Nat) (L:Array Bool) (a:Act) (w:World),wpAny P md ops Q fuel L a w→wpAnyIn (Fence.wide.inRound l) n P md ops Q fuel L a w
 | 0,L,a,w,h=>h
 | fuel+1,L,a,w,h=>by
  refine ⟨h.1,fun i hi=>?_⟩
  have h:=h.2 i hi
  unfold wpOp at h
  unfold wpOpIn
  split
  ·rename_i ho
   rw [ho] at h
   exact anyIn hno hd fuel _ _ _ h
  ·rename_i o ho
   rw [ho] at h
   simp only at h
   split at h
   ·rename_i hw
    rw [if_pos hw]
    rcases h with h|h
    ·exact opIn (hd o (by rw [Array.mem_toList_iff];exact Array.mem_of_getElem? ho)) (Oper.wp_mono (fun a w h=>anyIn hno hd fuel _ _ _ h) h)
    ·exact (hno h.2).elim
   ·rename_i hw
    rw [if_neg hw]
    exact ⟨fun _ _=>trivial,anyIn hno hd fuel _ _ _ h⟩
end
def roundW (P:Program) (l n:Nat):WPS P where
 W:=fun c Q a w=>Code.wpIn (Fence.wide.inRound l) n P c Q a w
 dfr:=false
 mono:=fun h hq=>wpIn_mono h hq
 skip:=wpIn_skip
 exit:=wpIn_exit
 ret:=wpIn_ret
 seq:=wpIn_seq
 cond:=fun hc h1 h2=>wpIn_cond_split hc h1 h2
 block:=wpIn_block
 loop:=fun I μ h0 h=>wpIn_loop I μ h0 h
 list:=fun hno hd h=>wpIn_region_list (opsIn hno _ (fun o ho=>List.all_eq_true.1 (hd.resolve_left (by simp)) o ho) _ _ h)
 any:=fun hm hno hd h=>wpIn_region_any hm (anyIn hno (fun o ho=>List.all_eq_true.1 (hd.resolve_left (by simp)) o ho) _ _ _ _ h)
theorem WPS.ghost {P:Program} (S:WPS P) {Q:Exit→Act→World→Prop} {a:Act} {w:World} {c:Code} (I:Nat→Act→World→Prop) (n₀:Nat) (h₀:I n₀ a w)
  (round:∀n a w,I n a w→S.W c (Exit.then (fun a' w'=>∃n',n' < n∧I n' a' w') Q) a w):S.W (.loop c) Q a w:=by
 refine S.loop (fun a w=>∃n,I n a w) (fun a w=>leastOf (fun n=>I n a w)) ⟨n₀,h₀⟩ ?_
 intro a w hI
 refine S.mono (round _ a w (leastOf_spec hI).1) ?_
 intro e a' w' hq
 cases e with
 | normal=>
  obtain ⟨n',hlt,hI'⟩:=hq
  exact show (∃n,I n a' w')∧leastOf (fun n=>I n a' w')<leastOf (fun n=>I n a w) from ⟨⟨n',hI'⟩,Nat.lt_of_le_of_lt ((leastOf_spec ⟨n',hI'⟩).2 n' hI') hlt⟩
 | exit id=>exact hq
 | goto l=>exact hq
 | ret=>exact hq
 | panic ch=>exact hq
 | outgrown=>exact hq
def WPS.rounds {P:Program} (S:WPS P) (c:Code) (Q:Exit→Act→World→Prop):Nat→Act→World→Prop
 | 0,_,_=>False
 | n+1,a,w=>S.W c (Exit.then (WPS.rounds S c Q n) Q) a w
theorem WPS.loopN {P:Program} (S:WPS P) {Q:Exit→Act→World→Prop} {a:Act} {w:World} {c:Code} (n:Nat) (h:S.rounds c Q n a w):S.W (.loop c) Q a w:=by
 refine S.ghost (fun n a w=>S.rounds c Q n a w) n h ?_
 intro n a w h
 cases n with
 | zero=>exact h.elim
 | succ n=>
  refine S.mono h ?_
  intro e a' w' hq
  cases e with
  | normal=>exact ⟨n,by omega,hq⟩
  | exit id=>exact hq
  | goto l=>exact hq
  | ret=>exact hq
  | panic ch=>exact hq
  | outgrown=>exact hq
end Uw
namespace Uw
open Go Go.RowKit
variable [Glob]
def ExRel (c:Cx):Exit→MExit→Prop
 | .normal,.normal=>True
 | .exit i,.exit j=>i=j
 | .ret,.ret=>True
 | .panic ch,.panic d=>∃v,ch=[{ v:=v,recovered:=false }]∧RelI c.w (Imm c) d v
 | _,_=>False
def EndRel (c:Cx):Ending→Res→Prop
 | .returned gv,.val v=>RelV c v gv
 | .panicked ch,.pan d=>∃v,ch=[{ v:=v,recovered:=false }]∧RelI c.w (Imm c) d v
 | _,_=>False
def HasBody (P:Program) (f:FuncId):Prop:=∃fn,P.funcs[f]? = some fn∧fn.body.isSome=true∧(fn.name == "runtime.NumGoroutine")=false
def SatC (P:Program) (f:FuncId) (vs:List V) (h:Heap) (nx:Nat) (Q:Res→Heap→Nat→Prop):Prop:=
 HasBody P f∧∀(c:Cx) (w0:World) (F:Fr) (gvs:List Value),c.heap=h→HRel c w0 nx→F.K≤nx→F.p c→RelVL c vs gvs→
  Calls P f gvs.toArray c.w fun e w'=>∃c' r nx',c'.B=c.B∧c'.J0=c.J0∧c'.w=w'∧HRel c' w0 nx'∧nx≤nx'∧F.p c'∧EndRel c' e r∧Q r c'.heap nx'
def SatM (P:Program) (m:MCode) (st:St) (Q:MExit→St→Prop):Prop:=
 ∀(S:WPS P) (n:Nat) (pol:Pol) (code:Code),comp P n pol code=some m→(S.dfr=true∨noD code=true)→∀c w0 gs a,Rel c w0 n gs st a→
  S.W code (fun e a' w'=>∃c' me st',c'.B=c.B∧c'.J0=c.J0∧c'.w=w'∧ExRel c' e me∧Rel c' w0 n gs st' a'∧Q me st') a c.w
def WT (P:Program) (Q:MExit→St→Prop):Tree→Prop
 | .done e st=>Q e st
 | .fail=>False
 | .test b y n=>(b=true→WT P Q y)∧(b=false→WT P Q n)
 | .both y n=>WT P Q y∧WT P Q n
 | .same x y t=>x=y∧WT P Q t
 | .elem xs i k=>∃x,xs[i]? = some x∧WT P Q (k x)
 | .byte s i k=>∃x,s[i]? = some x∧WT P Q (k x)
 | .val o k=>∃x,o=some x∧WT P Q (k x)
 | .call f ds k=>∃r,Ret P f ds r∧WT P Q (k r)
 | .sub f vs h nx k=>SatC P f vs h nx fun r h' nx'=>WT P Q (k r h' nx')
 | .code m st k=>SatM P m st fun e st'=>WT P Q (k e st')
 | .blk o k=>∃x,o=some x∧WT P Q (k x)
 | .vval o k=>∃x,o=some x∧WT P Q (k x)
 | .heq h k=>∃h',(∀i,look h' i=look h i)∧WT P Q (k h')
section
variable {P : Program} {o : Oper} {a : Act} {K : Act → World → Prop} {Qx : Exit → Act → World → Prop} {w w' : World}
theorem wp_value {gv:Value} (h:(execOp a.eval o).run P w = .ok (.value gv) w') (hk:K (a.put o.dst gv) w'):o.wp P a w K Qx:=by
 unfold Oper.wp;rw [h];exact hk
theorem wp_skip' (h:(execOp a.eval o).run P w = .ok .skip w') (hk:K (a.put o.dst undef) w'):o.wp P a w K Qx:=by
 unfold Oper.wp;rw [h];exact hk
end
theorem datOf_rel {v:Value} {d:Dat} (h:datOf v=some d) (w:World) (J:Nat→Nat→Prop):RelI w J d v:=by
 unfold datOf at h
 split at h
 case h_9 f x y=>
  split at h
  ·rename_i hx hy
   simp at h hx hy
   subst h hx hy
   simp [RelI]
  ·simp at h
 all_goals first|(simp at h;subst h;simp [RelI])|(simp at h)
theorem datsOf_rel:∀{vs:List Value} {ds:List Dat},datsOf vs=some ds→∀(w:World) (J:Nat→Nat→Prop),RelL w J ds vs
 | [],ds,h,w,J=>by simp [datsOf] at h;subst h;simp [RelL]
 | v::vs,ds,h,w,J=>by
  unfold datsOf at h
  split at h
  ·rename_i x l hx hl
   simp at h;subst h
   exact ⟨v,vs,rfl,datOf_rel hx w J,datsOf_rel hl w J⟩
  ·simp at h
theorem ev_t {st:St} {t:Nat} {v:V} (h:(Opd.t t).ev st=some v):look st.regs t=some v∧v≠.undef:=by
 simp only [Opd.ev] at h
 split at h
 ·simp at h
 ·rename_i h1;exact ⟨h,fun e=>h1 (by rw [h,e])⟩
theorem ev_ne {st:St} {y:Opd} {v:V} (h:y.ev st=some v):v≠.undef:=by
 cases y with
 | t n=>exact (ev_t h).2
 | c d=>simp [Opd.ev] at h;subst h;simp
theorem opd_rel {c:Cx} {w0:World} {n:Nat} {gs:Fr} {st:St} {a:Act} (r:Rel c w0 n gs st a) {x:Operand} {y:Opd} (hc:compOpd x=some y) {v:V} (hv:y.ev st=some v):RelV c v (a.eval x):=by
 cases x with
 | tmp t=>simp [compOpd] at hc;subst hc;exact r.regs t v (ev_t hv).1
 | const u=>
  simp [compOpd] at hc
  obtain ⟨d,hd,rfl⟩:=hc
  simp [Opd.ev] at hv;subst hv
  exact datOf_rel hd _ _
 | func f=>simp [compOpd] at hc;subst hc;simp [Opd.ev] at hv;subst hv;simp [RelV,RelI,Act.eval]
 | global g=>simp [compOpd] at hc
theorem RelVL.length {c:Cx}:∀{xs:List V} {vs:List Value},RelVL c xs vs→vs.length=xs.length
 | [],vs,h=>by simp [RelVL] at h;simp [h]
 | x::xs,vs,h=>by obtain ⟨v,vs',rfl,_,h3⟩:=h;simp [RelVL.length h3]
theorem RelL.length {w:World} {J:Nat→Nat→Prop}:∀{xs:List Dat} {vs:List Value},RelL w J xs vs→vs.length=xs.length
 | [],vs,h=>by simp [RelL] at h;simp [h]
 | x::xs,vs,h=>by obtain ⟨v,vs',rfl,_,h3⟩:=h;simp [RelL.length h3]
theorem RelVL.ofL {c:Cx}:∀{ds:List Dat} {vs:List Value},RelL c.w (Imm c) ds vs→RelVL c (ds.map V.d) vs
 | [],vs,h=>by simpa [RelVL,RelL] using h
 | d::ds,vs,h=>by obtain ⟨v,vs',rfl,h2,h3⟩:=h;exact ⟨v,vs',rfl,h2,RelVL.ofL h3⟩
theorem cells_rel {c:Cx} {x:V} {v:Value} (h:RelV c x v) (hx:x≠.undef):RelVL c x.cells v.cells.toList:=by
 cases x with
 | agg cs=>obtain ⟨vs,rfl,h2⟩:=h;simpa [V.cells,Value.cells] using h2
 | d x=>
  cases x with
  | agg ds=>obtain ⟨vs,rfl,h2⟩:=h;simpa [V.cells,Value.cells] using RelVL.ofL h2
  | bool b=>simp only [RelV,RelI] at h;subst h;exact ⟨_,[],rfl,by simp [RelV,RelI],rfl⟩
  | int k n=>simp only [RelV,RelI] at h;subst h;exact ⟨_,[],rfl,by simp [RelV,RelI],rfl⟩
  | str s=>simp only [RelV,RelI] at h;subst h;exact ⟨_,[],rfl,by simp [RelV,RelI],rfl⟩
  | nil=>simp only [RelV,RelI] at h;subst h;exact ⟨_,[],rfl,by simp [RelV,RelI],rfl⟩
  | slice k xs z=>
   have h':=h
   rcases h' with ⟨⟨_,rfl,_⟩,_⟩|⟨b,o,cap,rfl,_⟩
   ·exact ⟨_,[],rfl,h,rfl⟩
   ·exact ⟨_,[],rfl,h,rfl⟩
  | func f=>simp only [RelV,RelI] at h;subst h;exact ⟨_,[],rfl,by simp [RelV,RelI],rfl⟩
  | nilFunc=>simp only [RelV,RelI] at h;subst h;exact ⟨_,[],rfl,by simp [RelV,RelI],rfl⟩
  | nilIface=>simp only [RelV,RelI] at h;subst h;exact ⟨_,[],rfl,by simp [RelV,RelI],rfl⟩
  | nilPtr=>simp only [RelV,RelI] at h;subst h;exact ⟨_,[],rfl,by simp [RelV,RelI],rfl⟩
  | nilMap=>simp only [RelV,RelI] at h;subst h;exact ⟨_,[],rfl,by simp [RelV,RelI],rfl⟩
  | iface t d=>obtain ⟨u,rfl,h2⟩:=h;exact ⟨_,[],rfl,⟨u,rfl,h2⟩,rfl⟩
  | tuple ds=>obtain ⟨vs,rfl,h2⟩:=h;exact ⟨_,[],rfl,⟨vs,rfl,h2⟩,rfl⟩
 | ptr id off=>obtain ⟨h1,rfl⟩:=h;exact ⟨_,[],rfl,⟨h1,rfl⟩,rfl⟩
 | ro cs off=>obtain ⟨b,o,rfl,h2⟩:=h;exact ⟨_,[],rfl,⟨b,o,rfl,h2⟩,rfl⟩
 | eptr id ver i cc=>
  have h':=h
  simp only [RelV] at h'
  unfold RelEptr at h'
  split at h'
  ·obtain ⟨_,⟨x,rfl⟩,_⟩:=h';exact ⟨_,[],rfl,h,rfl⟩
  ·exact h'.elim
 | ref id ver off len=>
  have h':=h
  simp only [RelV] at h'
  unfold RelRef at h'
  split at h'
  ·rcases h' with ⟨_,⟨rfl,_⟩|⟨b,o,cap,rfl,_⟩⟩<;>exact ⟨_,[],rfl,h,rfl⟩
  ·obtain ⟨_,⟨x,l,cp,rfl⟩,_⟩:=h';exact ⟨_,[],rfl,h,rfl⟩
  ·exact h'.elim
 | func f fs cap=>obtain ⟨us,vs,rfl,h2⟩:=h;exact ⟨_,[],rfl,⟨us,vs,rfl,h2⟩,rfl⟩
 | tuple ds=>obtain ⟨vs,rfl,h2⟩:=h;exact ⟨_,[],rfl,⟨vs,rfl,h2⟩,rfl⟩
 | hnd id=>
  have h':=h
  simp only [RelV] at h'
  unfold RelHnd at h'
  split at h'
  ·subst h';exact ⟨_,[],rfl,h,rfl⟩
  ·subst h';exact ⟨_,[],rfl,h,rfl⟩
  ·exact h'.elim
 | row id len=>obtain ⟨h1,rfl,h3⟩:=h;exact ⟨_,[],rfl,⟨h1,rfl,h3⟩,rfl⟩
 | undef=>exact (hx rfl).elim
end Uw
namespace Uw
open Go Go.RowKit
variable [Glob]
theorem look_cons {α:Type} (l:List (Nat×α)) (i j:Nat) (a:α):look ((i,a)::l) j=if i=j then some a else look l j:=by
 rw [look]
 by_cases h:i=j
 ·subst h;simp
 ·have:Nat.beq i j=false:=by
   rw [Bool.eq_false_iff];intro hb;exact h (Nat.eq_of_beq_eq_true hb)
  simp [this,h]
theorem cell_of_block {w w' : World} {b o:Nat} (h:w'.heap[b]? = w.heap[b]?):w'.cell? ⟨b,o,none⟩=w.cell? ⟨b,o,none⟩:=World.cell?_of_block (w:=w) (w':=w') (a:=⟨b,o,none⟩) h
theorem HRel.B_le {c:Cx} {w0:World} {n:Nat} (h:HRel c w0 n):c.B≤c.w.heap.size:=Nat.le_trans h.size0.1 h.below.size
theorem HRel.old_lt {c:Cx} {w0:World} {n:Nat} (h:HRel c w0 n) {b:Nat} (hb:c.Old b):b<c.w.heap.size:=by
 rcases hb with hb|hb
 ·exact Nat.lt_of_lt_of_le hb h.B_le
 ·exact Nat.lt_of_lt_of_le (h.other b hb).1 h.below.size
theorem HRel.old_ge {c:Cx} {w0:World} {n:Nat} (h:HRel c w0 n) {b:Nat} (hb:c.w.heap.size≤b):¬c.Old b:=fun ho=>by have:=h.old_lt ho;omega
theorem HRel.geB {c:Cx} {w0:World} {n:Nat} (h:HRel c w0 n) {id:Nat} {b:Blk} (hb:look c.heap id=some b) (hph:Ph (c.pl id) b):c.B≤(c.pl id).gb:=Nat.le_of_not_lt fun hlt=>h.ge id b hb hph (.inl hlt)
theorem HRel.imm_lt {c:Cx} {w0:World} {n:Nat} (h:HRel c w0 n) {b o:Nat} (hb:Imm c b o):b<c.w.heap.size:=by
 rcases hb with hb|hb
 ·exact h.old_lt hb.1
 ·exact hb.2.1
theorem HRel.others {c:Cx} {w0:World} {n:Nat} (h:HRel c w0 n) {w' : World} (hk:∀b,c.J0.X b→b<c.w.heap.size→w'.heap[b]? = c.w.heap[b]?):∀b,c.J0.X b→b<w0.heap.size∧w'.heap[b]? = w0.heap[b]?:=fun b hb=>
 ⟨(h.other b hb).1,(hk b hb (h.old_lt (.inr hb))).trans (h.other b hb).2⟩
theorem HRel.glob {c:Cx} {w0:World} {n:Nat} (h:HRel c w0 n):GOk c.w.heap.size c.w:=
 ⟨Nat.le_refl _,Nat.le_trans h.size0.2.1 h.B_le,Glob.ok w0 c.w (fun k hk=>h.below.block k (Nat.lt_of_lt_of_le hk h.size0.2.1)) h.size0.2.2⟩
theorem HRel.gb_lt {c:Cx} {w0:World} {n:Nat} (h:HRel c w0 n) {id:Nat} {b:Blk} (hb:look c.heap id=some b) (hph:Ph (c.pl id) b):(c.pl id).gb<c.w.heap.size:=by
 have:=h.blk id b hb
 have key:∀o,c.w.heap[(c.pl id).gb]? = some o→(c.pl id).gb<c.w.heap.size:=by
  intro o ho
  by_cases hlt:(c.pl id).gb<c.w.heap.size
  ·exact hlt
  ·rw [Array.getElem?_eq_none (by omega)] at ho;cases ho
 cases b with
 | var cs=>obtain ⟨vs,e,h1,_⟩:=this;exact key _ h1
 | arr k xs=>obtain ⟨vs,e,h1,_⟩:=this.2 hph;exact key _ h1
 | mt k v xs=>obtain ⟨vs,e,h1,_⟩:=this.2.2 hph;exact key _ h1
 | iter s p=>exact key _ this
 | map kk es=>obtain ⟨ms,k,h1,_⟩:=this;exact key _ h1
theorem Evo.grow {c:Cx} {w0:World} {n:Nat} {w' : World} (r:HRel c w0 n) (h:Below c.w.heap.size c.w w'):Evo c { c with w:=w' }:=by
 refine ⟨?_,?_⟩
 ·intro b o hi
  refine ⟨?_,?_⟩
  ·rcases hi with hi|⟨h1,h2,h3⟩
   ·exact .inl hi
   ·exact .inr ⟨h1,Nat.lt_of_lt_of_le h2 h.size,h3⟩
  ·exact cell_of_block (h.block b (r.imm_lt hi))
 ·intro id b hb
  refine ⟨b,hb,?_⟩
  cases b<;>simp [BlkEvo]
theorem HRel.grow {c:Cx} {w0:World} {n:Nat} {w' : World} (r:HRel c w0 n) (h:Below c.w.heap.size c.w w'):HRel { c with w:=w' } w0 n:=by
 have he:=Evo.grow r h
 refine ⟨r.below.trans (h.mono r.B_le),r.others (fun b _ hb=>h.block b hb),r.size0,?_,r.lt,r.ge,r.inj⟩
 intro id b hb
 exact BlkRel.evo he rfl (fun hp=>h.block _ (r.gb_lt hb hp)) (r.blk id b hb)
theorem Rel.grow {c:Cx} {w0:World} {n:Nat} {gs:Fr} {st:St} {a:Act} {w' : World} (r:Rel c w0 n gs st a) (h:Below c.w.heap.size c.w w'):Rel { c with w:=w' } w0 n gs st a:=
 r.evo (Evo.grow r.hrel h) r.heap (r.hrel.grow h) rfl rfl rfl (Nat.le_refl _)
def Cx.push (c:Cx) (next cap:Nat) (b:Blk) (o:Obj):Cx:=
 { c with heap:=(next,b)::c.heap,pl:=fun i=>if i=next then ⟨c.w.heap.size,cap⟩ else c.pl i,w:=c.w.alloc o }
theorem look_push {c:Cx} {w0:World} {next cap:Nat} {b:Blk} {o:Obj} (r:HRel c w0 next) {id:Nat} {b' : Blk} (h:look c.heap id=some b') :
  look (c.push next cap b o).heap id=some b'∧(c.push next cap b o).pl id=c.pl id:=by
 have:=r.lt id b' h
 simp only [Cx.push,look_cons]
 constructor
 ·rw [if_neg (by omega)];exact h
 ·rw [if_neg (by omega)]
theorem Evo.push {c:Cx} {w0:World} {next cap:Nat} {b:Blk} {o:Obj} (r:HRel c w0 next):Evo c (c.push next cap b o):=by
 refine ⟨?_,?_⟩
 ·intro b' o' hi
  have hb:b' < c.w.heap.size:=r.imm_lt hi
  refine ⟨?_,cell_of_block (Below.heap_alloc _ _ _ hb)⟩
  rcases hi with hi|⟨h1,h2,h3⟩
  ·exact .inl hi
  ·refine .inr ⟨h1,?_,?_⟩
   ·show b' < (c.w.heap.push o).size
    rw [Array.size_push];omega
   ·intro id blk hl hph hg
    simp only [Cx.push,look_cons] at hl hg hph
    by_cases hid:next=id
    ·subst hid;simp at hg;omega
    ·rw [if_neg hid] at hl
     rw [if_neg (by omega)] at hg hph
     exact h3 id blk hl hph hg
 ·intro id b' hb
  obtain ⟨h1,h2⟩:=look_push (cap:=cap) (b:=b) (o:=o) r hb
  refine ⟨b',h1,?_⟩
  rw [h2]
  cases b'<;>simp [BlkEvo]
theorem HRel.push {c:Cx} {w0:World} {next cap:Nat} {b:Blk} {o:Obj} (r:HRel c w0 next) (hb:BlkRel (c.push next cap b o) next b):HRel (c.push next cap b o) w0 (next+1):=by
 have he:Evo c (c.push next cap b o):=Evo.push r
 refine ⟨r.below.alloc r.B_le o,r.others (fun b _ hb=>Below.heap_alloc _ _ _ hb),r.size0,?_,?_,?_,?_⟩
 ·intro id b' hl
  by_cases hid:next=id
  ·subst hid
   simp only [Cx.push,look_cons,if_true] at hl
   injection hl with hl
   subst hl
   exact hb
  ·simp only [Cx.push,look_cons,if_neg hid] at hl
   obtain ⟨h1,h2⟩:=look_push (cap:=cap) (b:=b) (o:=o) r hl
   exact BlkRel.evo he h2 (fun hp=>Below.heap_alloc _ _ _ (r.gb_lt hl hp)) (r.blk id b' hl)
 ·intro id b' hl
  by_cases hid:next=id
  ·omega
  ·simp only [Cx.push,look_cons,if_neg hid] at hl
   have:=r.lt id b' hl
   omega
 ·intro id b' hl hph
  by_cases hid:next=id
  ·subst hid
   simp only [Cx.push,if_true]
   exact r.old_ge (Nat.le_refl _)
  ·simp only [Cx.push,look_cons,if_neg hid] at hl
   obtain ⟨h1,h2⟩:=look_push (cap:=cap) (b:=b) (o:=o) r hl
   rw [h2] at hph ⊢;exact r.ge id b' hl hph
 ·intro id id' b1 b2 h1 h2 p1 p2 hg
  by_cases hid:next=id
  ·by_cases hid' : next=id'
   ·omega
   ·exfalso
    simp only [Cx.push,look_cons,if_neg hid'] at h2
    obtain ⟨_,e2⟩:=look_push (cap:=cap) (b:=b) (o:=o) r h2
    rw [e2] at p2
    have:=r.gb_lt h2 p2
    simp [Cx.push,hid.symm,show id'≠next from fun h=>hid' h.symm] at hg
    omega
  ·simp only [Cx.push,look_cons,if_neg hid] at h1
   by_cases hid' : next=id'
   ·exfalso
    obtain ⟨_,e1⟩:=look_push (cap:=cap) (b:=b) (o:=o) r h1
    rw [e1] at p1
    have:=r.gb_lt h1 p1
    simp [Cx.push,hid'.symm,show id≠next from fun h=>hid h.symm] at hg
    omega
   ·simp only [Cx.push,look_cons,if_neg hid'] at h2
    simp [Cx.push,show id≠next from fun h=>hid h.symm,show id'≠next from fun h=>hid' h.symm] at hg p1 p2
    exact r.inj id id' b1 b2 h1 h2 p1 p2 hg
theorem Rel.push {c:Cx} {w0:World} {n:Nat} {gs:Fr} {st:St} {a:Act} (r:Rel c w0 n gs st a) {b:Blk} {o:Obj} {cap:Nat} (hb:BlkRel (c.push st.next cap b o) st.next b) :
  Rel (c.push st.next cap b o) w0 n gs (newBlk st b) a:=
 r.evo (Evo.push r.hrel) (by simp [Cx.push,newBlk,r.heap]) (r.hrel.push hb) rfl rfl rfl (Nat.le_succ _)
theorem Evo.setVar {c:Cx} {w0:World} {next:Nat} (r:HRel c w0 next) {id:Nat} {cs cs' : List V} (hl:look c.heap id=some (.var cs)) {w' : World}
  (hw:∀b,b≠(c.pl id).gb→w'.heap[b]? = c.w.heap[b]?) (hsz:w'.heap.size=c.w.heap.size):Evo c { c with heap:=(id,.var cs')::c.heap,w:=w' }:=by
 refine ⟨?_,?_⟩
 ·intro b o hi
  have hne:b≠(c.pl id).gb:=by
   rintro rfl
   rcases hi with hi|⟨h1,h2,h3⟩
   ·exact r.ge id _ hl trivial hi.1
   ·obtain ⟨k,xs,h,_⟩:=h3 id _ hl trivial rfl;cases h
  refine ⟨?_,cell_of_block (hw b hne)⟩
  rcases hi with hi|⟨h1,h2,h3⟩
  ·exact .inl hi
  ·refine .inr ⟨h1,by simpa [hsz] using h2,?_⟩
   intro id' blk hl' hph hg
   simp only [look_cons] at hl'
   by_cases hid:id=id'
   ·subst hid;exact (hne hg.symm).elim
   ·rw [if_neg hid] at hl';exact h3 id' blk hl' hph hg
 ·intro id' b hb
  simp only [look_cons]
  by_cases hid:id=id'
  ·subst hid
   rw [hl] at hb;injection hb with hb;subst hb
   exact ⟨_,if_pos rfl,rfl⟩
  ·rw [if_neg hid]
   exact ⟨b,hb,by cases b<;>simp [BlkEvo]⟩
theorem HRel.setVar {c:Cx} {w0:World} {next:Nat} (r:HRel c w0 next) {id:Nat} {cs cs' : List V} (hl:look c.heap id=some (.var cs)) {w' : World}
  (hbel:Below c.B c.w w')
  (hw:∀b,b≠(c.pl id).gb→w'.heap[b]? = c.w.heap[b]?) (hsz:w'.heap.size=c.w.heap.size)
  (hb:BlkRel { c with heap:=(id,.var cs')::c.heap,w:=w' } id (.var cs')):HRel { c with heap:=(id,.var cs')::c.heap,w:=w' } w0 next:=by
 have he:=Evo.setVar (cs':=cs') r hl hw hsz
 refine ⟨r.below.trans hbel,r.others (fun b hb _=>hw b (fun e=>r.ge id _ hl trivial (.inr (e ▸ hb)))),r.size0,?_,?_,?_,?_⟩
 ·intro id' b hl'
  simp only [look_cons] at hl'
  by_cases hid:id=id'
  ·subst hid;simp at hl';subst hl';exact hb
  ·rw [if_neg hid] at hl'
   refine BlkRel.evo he rfl (fun hph=>hw _ ?_) (r.blk id' b hl')
   intro hg;exact hid (r.inj id' id b _ hl' hl hph trivial hg).symm
 ·intro id' b hl'
  simp only [look_cons] at hl'
  by_cases hid:id=id'
  ·subst hid;exact r.lt id _ hl
  ·rw [if_neg hid] at hl';exact r.lt id' b hl'
 ·intro id' b hl' hph
  simp only [look_cons] at hl'
  by_cases hid:id=id'
  ·subst hid;exact r.ge id _ hl trivial
  ·rw [if_neg hid] at hl';exact r.ge id' b hl' hph
 ·intro id1 id2 b1 b2 h1 h2 p1 p2 hg
  simp only [look_cons] at h1 h2
  have e1:∃b,look c.heap id1=some b∧Ph (c.pl id1) b:=by
   by_cases hid:id=id1
   ·subst hid;exact ⟨_,hl,trivial⟩
   ·rw [if_neg hid] at h1;exact ⟨_,h1,p1⟩
  have e2:∃b,look c.heap id2=some b∧Ph (c.pl id2) b:=by
   by_cases hid:id=id2
   ·subst hid;exact ⟨_,hl,trivial⟩
   ·rw [if_neg hid] at h2;exact ⟨_,h2,p2⟩
  obtain ⟨x1,e1,q1⟩:=e1
  obtain ⟨x2,e2,q2⟩:=e2
  exact r.inj id1 id2 x1 x2 e1 e2 q1 q2 hg
def Cx.setBlk (c:Cx) (id:Nat) (b:Blk) (p:Pl) (w:World):Cx:={ c with heap:=(id,b)::c.heap,pl:=fun i=>if i=id then p else c.pl i,w:=w }
theorem look_setBlk {c:Cx} {id:Nat} {b:Blk} {p:Pl} {w:World} {id' : Nat} (h:id≠id'):look (c.setBlk id b p w).heap id' = look c.heap id'∧(c.setBlk id b p w).pl id' = c.pl id':=by
 simp only [Cx.setBlk,look_cons]
 exact ⟨if_neg h,if_neg (fun e=>h e.symm)⟩
theorem look_setBlk_same {c:Cx} {id:Nat} {b:Blk} {p:Pl} {w:World}:look (c.setBlk id b p w).heap id=some b∧(c.setBlk id b p w).pl id=p:=by
 constructor
 ·simp only [Cx.setBlk,look_cons,if_true]
 ·simp only [Cx.setBlk,if_true]
theorem Evo.setBlk {c:Cx} {w0:World} {next:Nat} (r:HRel c w0 next) {id:Nat} {b b' : Blk} {p' : Pl} (hl:look c.heap id=some b) {w' : World}
  (hother:∀k,k<c.w.heap.size→(Ph (c.pl id) b→k≠(c.pl id).gb)→w'.heap[k]? = c.w.heap[k]?) (hsz:c.w.heap.size≤w'.heap.size)
  (hp:(p'.gb=(c.pl id).gb∧(Ph p' b'→Ph (c.pl id) b))∨c.w.heap.size≤p'.gb)
  (himm:Ph (c.pl id) b→∀o,Imm c (c.pl id).gb o→w'.cell? ⟨(c.pl id).gb,o,none⟩=c.w.cell? ⟨(c.pl id).gb,o,none⟩∧(p'.gb=(c.pl id).gb→∃k xs,b' = .arr k xs∧o<xs.length * k))
  (hbe:BlkEvo (c.pl id) p' b b'):Evo c (c.setBlk id b' p' w'):=by
 refine ⟨?_,?_⟩
 ·intro k o hi
  have hk:k<c.w.heap.size:=r.imm_lt hi
  by_cases hkg:Ph (c.pl id) b∧k=(c.pl id).gb
  ·obtain ⟨hph,hkg⟩:=hkg
   subst hkg
   obtain ⟨h1,h2⟩:=himm hph o hi
   refine ⟨?_,h1⟩
   rcases hi with hi|⟨g1,g2,g3⟩
   ·exact .inl hi
   ·refine .inr ⟨g1,Nat.lt_of_lt_of_le g2 hsz,?_⟩
    intro id' blk hl' hph' hg
    by_cases hid:id=id'
    ·subst hid
     rw [look_setBlk_same.1] at hl'
     injection hl' with hl'
     subst hl'
     rw [look_setBlk_same.2] at hg
     exact h2 hg
    ·rw [(look_setBlk hid).1] at hl'
     rw [(look_setBlk hid).2] at hg hph'
     exact g3 id' blk hl' hph' hg
  ·refine ⟨?_,cell_of_block (hother k hk (fun hph hkk=>hkg ⟨hph,hkk⟩))⟩
   rcases hi with hi|⟨g1,g2,g3⟩
   ·exact .inl hi
   ·refine .inr ⟨g1,Nat.lt_of_lt_of_le g2 hsz,?_⟩
    intro id' blk hl' hph' hg
    by_cases hid:id=id'
    ·subst hid
     rw [look_setBlk_same.1] at hl'
     injection hl' with hl'
     subst hl'
     rw [look_setBlk_same.2] at hg hph'
     rcases hp with ⟨hp,hp2⟩|hp
     ·exact (hkg ⟨hp2 hph',by rw [← hg,hp]⟩).elim
     ·omega
    ·rw [(look_setBlk hid).1] at hl'
     rw [(look_setBlk hid).2] at hg hph'
     exact g3 id' blk hl' hph' hg
 ·intro id' x hx
  by_cases hid:id=id'
  ·subst hid
   rw [hl] at hx;injection hx with hx;subst hx
   exact ⟨b',look_setBlk_same.1,by rw [look_setBlk_same.2];exact hbe⟩
  ·refine ⟨x,by rw [(look_setBlk hid).1];exact hx,?_⟩
   rw [(look_setBlk hid).2]
   cases x<;>simp [BlkEvo]
theorem HRel.setBlk {c:Cx} {w0:World} {next:Nat} (r:HRel c w0 next) {id:Nat} {b b' : Blk} {p' : Pl} (hl:look c.heap id=some b) {w' : World} (he:Evo c (c.setBlk id b' p' w'))
  (hother:∀k,k<c.w.heap.size→(Ph (c.pl id) b→k≠(c.pl id).gb)→w'.heap[k]? = c.w.heap[k]?) (hbel:Below c.B c.w w')
  (hp:(p'.gb=(c.pl id).gb∧(Ph p' b'→Ph (c.pl id) b))∨c.w.heap.size≤p'.gb) (hb:BlkRel (c.setBlk id b' p' w') id b'):HRel (c.setBlk id b' p' w') w0 next:=by
 refine ⟨r.below.trans hbel,r.others (fun k hk hlt=>hother k hlt (fun hph e=>r.ge id _ hl hph (.inr (e ▸ hk)))),r.size0,?_,?_,?_,?_⟩
 ·intro id' x hx
  by_cases hid:id=id'
  ·subst hid
   rw [look_setBlk_same.1] at hx;injection hx with hx;subst hx;exact hb
  ·rw [(look_setBlk hid).1] at hx
   refine BlkRel.evo he (look_setBlk hid).2 (fun hph=>hother _ (r.gb_lt hx hph) ?_) (r.blk id' x hx)
   intro hph2 hg;exact hid (r.inj id' id x _ hx hl hph hph2 hg).symm
 ·intro id' x hx
  by_cases hid:id=id'
  ·subst hid;exact r.lt id _ hl
  ·rw [(look_setBlk hid).1] at hx;exact r.lt id' x hx
 ·intro id' x hx hph
  by_cases hid:id=id'
  ·subst hid
   rw [look_setBlk_same.1] at hx;injection hx with hx;subst hx
   rw [look_setBlk_same.2] at hph ⊢
   show ¬c.Old p'.gb
   rcases hp with ⟨hp,hp2⟩|hp
   ·rw [hp];exact r.ge id _ hl (hp2 hph)
   ·exact r.old_ge hp
  ·rw [(look_setBlk hid).1] at hx
   rw [(look_setBlk hid).2] at hph ⊢;exact r.ge id' x hx hph
 ·intro id1 id2 b1 b2 h1 h2 q1 q2 hg
  by_cases h1' : id=id1
  ·by_cases h2' : id=id2
   ·omega
   ·exfalso
    subst h1'
    rw [look_setBlk_same.1] at h1;injection h1 with h1;subst h1
    rw [(look_setBlk h2').1] at h2
    rw [look_setBlk_same.2,(look_setBlk h2').2] at hg
    rw [look_setBlk_same.2] at q1
    rw [(look_setBlk h2').2] at q2
    have:=r.gb_lt h2 q2
    rcases hp with ⟨hp,hp2⟩|hp
    ·exact h2' (r.inj id id2 _ _ hl h2 (hp2 q1) q2 (by rw [← hp,hg]))
    ·omega
  ·rw [(look_setBlk h1').1] at h1
   by_cases h2' : id=id2
   ·exfalso
    subst h2'
    rw [look_setBlk_same.1] at h2;injection h2 with h2;subst h2
    rw [look_setBlk_same.2,(look_setBlk h1').2] at hg
    rw [look_setBlk_same.2] at q2
    rw [(look_setBlk h1').2] at q1
    have:=r.gb_lt h1 q1
    rcases hp with ⟨hp,hp2⟩|hp
    ·exact h1' (r.inj id id1 _ _ hl h1 (hp2 q2) q1 (by rw [← hp,hg]))
    ·omega
   ·rw [(look_setBlk h2').1] at h2
    rw [(look_setBlk h1').2,(look_setBlk h2').2] at hg
    rw [(look_setBlk h1').2] at q1
    rw [(look_setBlk h2').2] at q2
    exact r.inj id1 id2 b1 b2 h1 h2 q1 q2 hg
def Cx.zero (c:Cx) (next:Nat) (b:Blk):Cx:={ c with heap:=(next,b)::c.heap,pl:=fun i=>if i=next then ⟨0,0⟩ else c.pl i }
theorem look_zero {c:Cx} {w0:World} {next:Nat} {b:Blk} (r:HRel c w0 next) {id:Nat} {b' : Blk} (h:look c.heap id=some b'):look (c.zero next b).heap id=some b'∧(c.zero next b).pl id=c.pl id:=by
 have:=r.lt id b' h
 simp only [Cx.zero,look_cons]
 constructor
 ·rw [if_neg (by omega)];exact h
 ·rw [if_neg (by omega)]
theorem Evo.zero {c:Cx} {w0:World} {next:Nat} {b:Blk} (r:HRel c w0 next) (hb:¬Ph ⟨0,0⟩ b):Evo c (c.zero next b):=by
 refine ⟨?_,?_⟩
 ·intro b' o' hi
  refine ⟨?_,rfl⟩
  rcases hi with hi|⟨h1,h2,h3⟩
  ·exact .inl hi
  ·refine .inr ⟨h1,h2,?_⟩
   intro id blk hl hph hg
   simp only [Cx.zero,look_cons] at hl hg hph
   by_cases hid:next=id
   ·subst hid
    simp at hl hph;subst hl;exact (hb hph).elim
   ·rw [if_neg hid] at hl
    rw [if_neg (by omega)] at hg hph
    exact h3 id blk hl hph hg
 ·intro id b' hb
  obtain ⟨h1,h2⟩:=look_zero (b:=b) r hb
  refine ⟨b',h1,?_⟩
  rw [h2]
  cases b'<;>simp [BlkEvo]
theorem HRel.zero {c:Cx} {w0:World} {next:Nat} {b:Blk} (r:HRel c w0 next) (hb:¬Ph ⟨0,0⟩ b) (hr:BlkRel (c.zero next b) next b):HRel (c.zero next b) w0 (next+1):=by
 have he:Evo c (c.zero next b):=Evo.zero r hb
 have key:∀id x,look (c.zero next b).heap id=some x→(id=next∧x=b)∨(look c.heap id=some x∧(c.zero next b).pl id=c.pl id):=by
  intro id x hl
  by_cases hid:next=id
  ·subst hid
   simp only [Cx.zero,look_cons,if_true] at hl
   injection hl with hl
   exact .inl ⟨rfl,hl.symm⟩
  ·simp only [Cx.zero,look_cons,if_neg hid] at hl
   exact .inr ⟨hl,(look_zero (b:=b) r hl).2⟩
 have nph:¬Ph ((c.zero next b).pl next) b:=by simpa [Cx.zero] using hb
 refine ⟨r.below,r.other,r.size0,?_,?_,?_,?_⟩
 ·intro id x hl
  rcases key id x hl with ⟨rfl,rfl⟩|⟨h1,h2⟩
  ·exact hr
  ·exact BlkRel.evo he h2 (fun _=>rfl) (r.blk id x h1)
 ·intro id x hl
  rcases key id x hl with ⟨rfl,rfl⟩|⟨h1,h2⟩
  ·omega
  ·have:=r.lt id x h1;omega
 ·intro id x hl hph
  rcases key id x hl with ⟨rfl,rfl⟩|⟨h1,h2⟩
  ·exact (nph hph).elim
  ·rw [h2] at hph ⊢;exact r.ge id x h1 hph
 ·intro id id' x x' hl hl' p1 p2 hg
  rcases key id x hl with ⟨rfl,rfl⟩|⟨h1,h2⟩
  ·exact (nph p1).elim
  ·rcases key id' x' hl' with ⟨rfl,rfl⟩|⟨h1',h2'⟩
   ·exact (nph p2).elim
   ·rw [h2] at p1 hg
    rw [h2'] at p2 hg
    exact r.inj id id' x x' h1 h1' p1 p2 hg
theorem Rel.zero {c:Cx} {w0:World} {n:Nat} {gs:Fr} {st:St} {a:Act} (r:Rel c w0 n gs st a) {b:Blk} (hb:¬Ph ⟨0,0⟩ b) (hr:BlkRel (c.zero st.next b) st.next b):Rel (c.zero st.next b) w0 n gs (newBlk st b) a:=
 r.evo (Evo.zero r.hrel hb) (by simp [Cx.zero,newBlk,r.heap]) (r.hrel.zero hb hr) rfl rfl rfl (Nat.le_succ _)
end Uw
namespace Uw
open Go Go.RowKit
variable [Glob]
theorem addr_add (b o i:Nat):(⟨b,o,none⟩:Addr).add i=⟨b,o+i,none⟩:=by
 unfold Addr.add
 by_cases h:i=0
 ·subst h;simp
 ·simp [h]
section
variable {P : Program} {w : World}
theorem run_bind {α β:Type} (s:Sem α) (f:α→Sem β):(s.bind f).run P w=match s.run P w with | .ok x w'=>(f x).run P w' | .halt h w'=>.halt h w':=by
 induction s generalizing w with
 | pure a=>rfl
 | load m a k ih=>
  simp only [Sem.bind,Sem.run]
  split
  ·exact ih _
  ·split
   ·exact ih _
   ·rfl
 | store m a v k ih=>
  cases v<;>simp only [Sem.bind,Sem.run]<;>(try rfl)<;>(split;(split;rfl;exact ih))<;>(split;exact ih;rfl)
 | new o k ih=>simp only [Sem.bind,Sem.run];exact ih _
 | shape r k ih=>simp only [Sem.bind,Sem.run];exact ih _
 | freeze a n k ih=>simp only [Sem.bind,Sem.run];exact ih
 | frozen a k ih=>simp only [Sem.bind,Sem.run];exact ih _
 | getObj r k ih=>
  simp only [Sem.bind,Sem.run]
  split
  ·rfl
  ·exact ih _
  ·rfl
 | setObj r o k ih=>
  simp only [Sem.bind,Sem.run]
  split
  ·rfl
  ·exact ih
  ·rfl
 | choose q k ih=>
  simp only [Sem.bind,Sem.run]
  split
  ·exact ih _
  ·exact ih _
 | sys c k ih=>simp only [Sem.bind,Sem.run];exact ih _
 | program k ih=>simp only [Sem.bind,Sem.run];exact ih _
 | mark m k ih=>simp only [Sem.bind,Sem.run];exact ih
 | halt h=>rfl
theorem run_bind_ok {α β:Type} {s:Sem α} {f:α→Sem β} {x:α} {w' : World} (h:s.run P w = .ok x w'):(s >>= f).run P w=(f x).run P w':=by
 show (s.bind f).run P w=_
 rw [run_bind,h]
theorem run_load {a:Addr} {v:Value} (h:w.cell? a=some v):(load a).run P w = .ok v w:=by
 simp [load,Sem.run,h]
theorem run_loadCellsFrom {b o:Nat}:∀(n i:Nat) (acc:Array Value) (vs:List Value),vs.length=n→
  (∀j v,vs[j]? = some v→w.cell? ⟨b,o+i+j,none⟩=some v)→(loadCellsFrom ⟨b,o,none⟩ i n acc).run P w = .ok (acc++vs.toArray) w:=by
 intro n
 induction n with
 | zero=>intro i acc vs hl _;have:vs=[]:=List.eq_nil_of_length_eq_zero hl;subst this;simp [loadCellsFrom,pure]
 | succ n ih=>
  intro i acc vs hl hc
  cases vs with
  | nil=>simp at hl
  | cons v vs=>
   simp only [loadCellsFrom]
   rw [run_bind_ok (run_load (v:=v) (by rw [addr_add];simpa using hc 0 v rfl))]
   rw [ih (i+1) (acc.push v) vs (by simpa using hl) (by
    intro j u hu
    have:=hc (j+1) u (by simpa using hu)
    rw [show o+(i+1)+j=o+i+(j+1) by omega];exact this)]
   simp
theorem run_loadCells {b o n:Nat} {vs:List Value} (hl:vs.length=n) (hc:∀j v,vs[j]? = some v→w.cell? ⟨b,o+j,none⟩=some v):(loadCells ⟨b,o,none⟩ n).run P w = .ok vs.toArray w:=by
 unfold loadCells
 rw [run_loadCellsFrom n 0 #[] vs hl (by simpa using hc)]
 simp
theorem run_info {t:TypeId} {i:TypeInfo} (h:P.info? t=some i):(typeInfo t).run P w = .ok i w:=by
 simp [typeInfo,program,Bind.bind,Sem.bind,Sem.run,h,pure]
theorem run_und {t:TypeId} {d:TypeDesc} (h:P.underlying t=some d):(underlying t).run P w = .ok d w:=by
 simp [underlying,program,Bind.bind,Sem.bind,Sem.run,h,pure]
theorem run_size {t:TypeId} {n:Nat} (h:sizeT P t=some n):(Go.sizeOf t).run P w = .ok n w:=by
 simp only [sizeT,Option.map_eq_some_iff] at h
 obtain ⟨i,hi,rfl⟩:=h
 unfold Go.sizeOf
 rw [run_bind_ok (run_info hi)]
 rfl
theorem run_isAgg {t:TypeId} {g:Bool} (h:isAggT P t=some g):(isAgg t).run P w = .ok g w:=by
 unfold isAggT at h
 unfold isAgg
 split at h
 ·rename_i fs hu;simp at h;subst h;rw [run_bind_ok (run_und hu)];rfl
 ·rename_i n e hu;simp at h;subst h;rw [run_bind_ok (run_und hu)];rfl
 ·rename_i d h1 h2 hu
  simp at h;subst h;rw [run_bind_ok (run_und hu)]
  cases d<;>first|rfl|exact (h1 _ rfl).elim|exact (h2 _ _ rfl).elim
 ·simp at h
theorem run_zero {t:TypeId} {zs:List Dat} (h:zeroT P t=some zs):∃v,(zeroValue t).run P w = .ok v w∧datsOf v.cells.toList=some zs:=by
 unfold zeroT at h
 split at h
 ·rename_i i hi
  split at h
  ·rename_i v hv
   refine ⟨v,?_,h⟩
   unfold zeroValue
   rw [run_bind_ok (run_info hi),hv]
   rfl
  ·simp at h
 ·simp at h
def pack (g:Bool) (vs:List Value):Option Value:=
 match g,vs with
 | true,vs=>some (.agg vs.toArray)
 | false,[v]=>some v
 | false,_=>none
theorem run_loadVar {t:TypeId} {g:Bool} {n b o:Nat} {vs:List Value} {u:Value} (hg:isAggT P t=some g) (hn:sizeT P t=some n) (hl:vs.length=n) (hp:pack g vs=some u)
  (hc:∀j v,vs[j]? = some v→w.cell? ⟨b,o+j,none⟩=some v):(loadVar t ⟨b,o,none⟩).run P w = .ok u w:=by
 unfold loadVar
 rw [run_bind_ok (run_isAgg hg)]
 cases g with
 | true=>
  simp only [if_true]
  rw [run_bind_ok (run_size hn),run_bind_ok (run_loadCells hl hc)]
  simp [pack] at hp;subst hp;rfl
 | false=>
  simp only [Bool.false_eq_true,if_false]
  match vs,hp with
  | [v],hp=>simp [pack] at hp;subst hp;exact run_load (by simpa using hc 0 v rfl)
theorem run_store {a:Addr} {v u:Value} (hv:one v=true) (h:w.cell? a=some u) (hf:w.frozen? a=false):(store a v).run P w = .ok () (w.setCell a v):=by
 cases v<;>first|(simp [one] at hv;done)|simp [store,Sem.run,h,hf]
theorem heap_setCell {w:World} {b o:Nat} {v:Value} {vs:Array Value} {e:TypeId} (h:w.heap[b]? = some (.cells vs e (0,0))) :
  (w.setCell ⟨b,o,none⟩ v).heap[b]? = some (.cells (vs.setIfInBounds o v) e (0,0)):=by
 simp [World.setCell,Array.getElem?_modify,h]
theorem frozen_of_block {b o:Nat} {vs:Array Value} {e:TypeId} (h:w.heap[b]? = some (.cells vs e (0,0))):w.frozen? ⟨b,o,none⟩=false:=by
 simp [World.frozen?,h]
theorem cell_in_block {b o:Nat} {vs:Array Value} {e:TypeId} (h:w.heap[b]? = some (.cells vs e (0,0))):w.cell? ⟨b,o,none⟩=vs[o]?:=by
 simp [World.cell?,h]
def layAt (vs:Array Value) (o:Nat):List Value→Array Value
 | []=>vs
 | v::r=>layAt (vs.setIfInBounds o v) (o+1) r
theorem size_layAt:∀(us:List Value) (vs:Array Value) (o:Nat),(layAt vs o us).size=vs.size
 | [],vs,o=>rfl
 | u::us,vs,o=>by simp [layAt,size_layAt us]
structure Laid (w w' : World) (b:Nat) (vs:Array Value) (e:TypeId):Prop where
 here:w'.heap[b]? = some (.cells vs e (0,0))
 other:∀b',b'≠b→w'.heap[b']? = w.heap[b']?
 size:w'.heap.size=w.heap.size
 os:w'.os=w.os
 tape:w'.tape=w.tape
 output:w'.output=w.output
theorem run_storeCells (b o:Nat) {e:TypeId}:∀(us:List Value) (i:Nat) (vs:Array Value) (w:World),w.heap[b]? = some (.cells vs e (0,0))→o+i+us.length≤vs.size→
  (∀u∈us,one u=true)→∃w',(storeCells ⟨b,o,none⟩ us i).run P w = .ok () w'∧Laid w w' b (layAt vs (o+i) us) e
 | [],i,vs,w,h,_,_=>⟨w,by unfold storeCells;rfl,⟨h,fun _ _=>rfl,rfl,rfl,rfl,rfl⟩⟩
 | u::us,i,vs,w,h,hl,ho=>by
  simp only [List.length_cons] at hl
  have hsome:∃x,w.cell? ⟨b,o+i,none⟩=some x:=by
   rw [cell_in_block h,Array.getElem?_eq_getElem (by omega)];exact ⟨_,rfl⟩
  obtain ⟨x,hx⟩:=hsome
  have h1:=heap_setCell (o:=o+i) (v:=u) h
  obtain ⟨w',hw',L⟩:=run_storeCells b o us (i+1) (vs.setIfInBounds (o+i) u) (w.setCell ⟨b,o+i,none⟩ u) h1 (by simp;omega) (fun x hx=>ho x (by simp [hx]))
  refine ⟨w',?_,?_⟩
  ·unfold storeCells
   rw [addr_add,run_bind_ok (run_store (ho u (by simp)) hx (frozen_of_block h))]
   exact hw'
  ·refine ⟨by rw [layAt];exact L.here,?_,L.size.trans (by simp [World.setCell]),L.os.trans rfl,L.tape.trans rfl,L.output.trans rfl⟩
   intro b' hb'
   rw [L.other b' hb',Below.heap_setCell _ _ _ _ hb']
theorem run_storeVar {t:TypeId} {n b o:Nat} {e:TypeId} {vs:Array Value} {u:Value} (hn:sizeT P t=some n) (hu:u.cells.size=n) (ho:∀x∈u.cells.toList,one x=true)
  (h:w.heap[b]? = some (.cells vs e (0,0))) (hl:o+n≤vs.size):∃w',(storeVar t ⟨b,o,none⟩ u).run P w = .ok () w'∧Laid w w' b (layAt vs o u.cells.toList) e:=by
 obtain ⟨w',h1,h2⟩:=run_storeCells (P:=P) b o u.cells.toList 0 vs w h (by simp [hu];omega) ho
 refine ⟨w',?_,h2⟩
 unfold storeVar
 rw [run_bind_ok (run_size hn)]
 simp only [hu,ne_eq,not_true_eq_false,if_false]
 exact h1
end
end Uw
namespace Uw
open Go Go.RowKit
variable [Glob]
theorem one_rel {c:Cx} {x:V} {v:Value} (h:RelV c x v) (hx:oneV x=true):one v=true:=by
 cases x with
 | agg cs=>simp [oneV] at hx
 | d x=>
  cases x with
  | agg ds=>simp [oneV] at hx
  | tuple ds=>simp [oneV] at hx
  | slice k xs z=>rcases h with ⟨⟨_,rfl,_⟩,_⟩|⟨b,o,cap,rfl,h2⟩<;>rfl
  | iface t d=>obtain ⟨u,rfl,h2⟩:=h;rfl
  | _=>simp only [RelV,RelI] at h;subst h;rfl
 | ptr id off=>obtain ⟨h1,rfl⟩:=h;rfl
 | ro cs off=>obtain ⟨b,o,rfl,h2⟩:=h;rfl
 | eptr id ver i cc=>
  simp only [RelV] at h
  unfold RelEptr at h
  split at h
  ·obtain ⟨_,⟨x,rfl⟩,_⟩:=h;rfl
  ·exact h.elim
 | ref id ver off len=>
  simp only [RelV] at h
  unfold RelRef at h
  split at h
  ·rcases h with ⟨_,⟨rfl,_⟩|⟨b,o,cap,rfl,_⟩⟩<;>rfl
  ·obtain ⟨_,⟨x,l,cp,rfl⟩,_⟩:=h;rfl
  ·exact h.elim
 | func f fs cap=>obtain ⟨us,vs,rfl,h2⟩:=h;rfl
 | tuple ds=>simp [oneV] at hx
 | hnd id=>
  simp only [RelV] at h
  unfold RelHnd at h
  split at h
  ·subst h;rfl
  ·subst h;rfl
  ·exact h.elim
 | row id len=>obtain ⟨h1,rfl,h3⟩:=h;rfl
 | undef=>simp [oneV] at hx
theorem RelVL.get {c:Cx}:∀{xs:List V} {vs:List Value},RelVL c xs vs→∀(i:Nat) (x:V),xs[i]? = some x→∃v,vs[i]? = some v∧RelV c x v:=by
 intro xs
 induction xs with
 | nil=>intro vs _ i x h;simp at h
 | cons y ys ih=>
  intro vs hh i x h
  obtain ⟨v,vs',rfl,h2,h3⟩:=hh
  cases i with
  | zero=>simp at h;subst h;exact ⟨v,rfl,h2⟩
  | succ i=>simp at h;simpa using ih h3 i x h
theorem RelVL.get' {c:Cx}:∀{xs:List V} {vs:List Value},RelVL c xs vs→∀(i:Nat) (v:Value),vs[i]? = some v→∃x,xs[i]? = some x∧RelV c x v:=by
 intro xs
 induction xs with
 | nil=>intro vs hh i x h;simp [RelVL] at hh;subst hh;simp at h
 | cons y ys ih=>
  intro vs hh i u h
  obtain ⟨v,vs',rfl,h2,h3⟩:=hh
  cases i with
  | zero=>simp at h;subst h;exact ⟨y,rfl,h2⟩
  | succ i=>simp at h;simpa using ih h3 i u h
theorem RelVL.drop {c:Cx}:∀{xs:List V} {vs:List Value},RelVL c xs vs→∀n,RelVL c (xs.drop n) (vs.drop n):=by
 intro xs
 induction xs with
 | nil=>intro vs hh n;simp [RelVL] at hh;subst hh;simp [RelVL]
 | cons y ys ih=>
  intro vs hh n
  obtain ⟨v,vs',rfl,h2,h3⟩:=hh
  cases n with
  | zero=>exact ⟨v,vs',rfl,h2,h3⟩
  | succ n=>simpa using ih h3 n
theorem RelVL.take {c:Cx}:∀{xs:List V} {vs:List Value},RelVL c xs vs→∀n,RelVL c (xs.take n) (vs.take n):=by
 intro xs
 induction xs with
 | nil=>intro vs hh n;simp [RelVL] at hh;subst hh;simp [RelVL]
 | cons y ys ih=>
  intro vs hh n
  obtain ⟨v,vs',rfl,h2,h3⟩:=hh
  cases n with
  | zero=>simp [RelVL]
  | succ n=>exact ⟨v,vs'.take n,rfl,h2,ih h3 n⟩
theorem RelVL.set {c:Cx}:∀{xs:List V} {vs:List Value},RelVL c xs vs→∀(i:Nat) {x:V} {v:Value},RelV c x v→RelVL c (xs.set i x) (vs.set i v):=by
 intro xs
 induction xs with
 | nil=>intro vs hh i x v _;simp [RelVL] at hh;subst hh;simp [RelVL]
 | cons y ys ih=>
  intro vs hh i x v h
  obtain ⟨u,vs',rfl,h2,h3⟩:=hh
  cases i with
  | zero=>exact ⟨v,vs',rfl,h,h3⟩
  | succ i=>exact ⟨u,vs'.set i v,rfl,h2,ih h3 i h⟩
theorem RelVL.setAt {c:Cx}:∀{ys:List V} {us:List Value},RelVL c ys us→∀{xs:List V} {vs:Array Value} (i:Nat),RelVL c xs vs.toList→RelVL c (setAt xs i ys) (layAt vs i us).toList:=by
 intro ys
 induction ys with
 | nil=>intro us h xs vs i hx;simp [RelVL] at h;subst h;simpa [Uw.setAt,layAt] using hx
 | cons y ys ih=>
  intro us h xs vs i hx
  obtain ⟨u,us',rfl,h2,h3⟩:=h
  rw [Uw.setAt,layAt]
  refine ih h3 (i+1) ?_
  rw [Array.toList_setIfInBounds]
  exact RelVL.set hx i h2
theorem pack_rel {c:Cx} {g:Bool} {xs:List V} {vs:List Value} {x:V} (h:RelVL c xs vs) (hx:mkVal g xs=some x):∃u,pack g vs=some u∧RelV c x u:=by
 cases g with
 | true=>simp [mkVal] at hx;subst hx;exact ⟨_,rfl,vs,rfl,h⟩
 | false=>
  match xs,hx,h with
  | [y],hx,h=>
   simp [mkVal] at hx;subst hx
   obtain ⟨v,vs',rfl,h2,h3⟩:=h
   simp [RelVL] at h3;subst h3
   exact ⟨v,rfl,h2⟩
theorem mkVal_len {g:Bool} {xs:List V} {x:V} (h:mkVal false xs=some x):xs.length=1:=by
 match xs,h with
 | [y],_=>rfl
theorem RelC.get {w:World} {J:Nat→Nat→Prop} {b:Nat}:∀{ds:List Dat} {o:Nat},RelC w J b o ds→∀i d,ds[i]? = some d→∃v,w.cell? ⟨b,o+i,none⟩=some v∧J b (o+i)∧RelI w J d v
 | [],o,_,i,d,h=>by simp at h
 | x::xs,o,⟨⟨v,h1,h2,_,h3⟩,h4⟩,i,d,h=>by
  cases i with
  | zero=>simp at h;subst h;exact ⟨v,h1,h2,h3⟩
  | succ i=>
   simp at h
   have:=RelC.get h4 i d h
   rwa [show o+1+i=o+(i+1) by omega] at this
theorem RelC.vals {w:World} {J:Nat→Nat→Prop} {b:Nat}:∀{ds:List Dat} {o:Nat},RelC w J b o ds→∃vs:List Value,RelL w J ds vs∧∀j v,vs[j]? = some v→w.cell? ⟨b,o+j,none⟩=some v
 | [],o,_=>⟨[],rfl,by simp⟩
 | x::xs,o,⟨⟨v,h1,h2,_,h3⟩,h4⟩=>by
  obtain ⟨vs,g1,g2⟩:=RelC.vals h4
  refine ⟨v::vs,⟨v,vs,rfl,h3,g1⟩,?_⟩
  intro j u hu
  cases j with
  | zero=>simp at hu;subst hu;exact h1
  | succ j=>
   simp at hu
   have:=g2 j u hu
   rwa [show o+1+j=o+(j+1) by omega] at this
theorem RelC.drop {w:World} {J:Nat→Nat→Prop} {b:Nat}:∀{ds:List Dat} {o:Nat},RelC w J b o ds→∀n,RelC w J b (o+n) (ds.drop n)
 | ds,o,h,0=>by simpa using h
 | [],o,h,n+1=>by simp [RelC]
 | x::xs,o,⟨_,h4⟩,n+1=>by
  have:=RelC.drop h4 n
  rw [show o+1+n=o+(n+1) by omega] at this
  simpa using this
theorem RelC.take {w:World} {J:Nat→Nat→Prop} {b:Nat}:∀{ds:List Dat} {o:Nat},RelC w J b o ds→∀n,RelC w J b o (ds.take n)
 | ds,o,h,0=>by simp [RelC]
 | [],o,h,n+1=>by simp [RelC]
 | x::xs,o,⟨h1,h4⟩,n+1=>⟨h1,RelC.take h4 n⟩
theorem RelE.get {w:World} {J:Nat→Nat→Prop} {b k:Nat}:∀{xs:List (List Dat)} {o:Nat},RelE w J b k o xs→∀i x,xs[i]? = some x→x.length=k∧RelC w J b (o+i * k) x
 | [],o,_,i,d,h=>by simp at h
 | y::ys,o,⟨h1,h2,h3⟩,i,d,h=>by
  cases i with
  | zero=>simp at h;subst h;exact ⟨h1,by simpa using h2⟩
  | succ i=>
   simp at h
   have:=RelE.get h3 i d h
   rwa [show o+k+i * k=o+(i+1) * k by rw [Nat.add_mul];omega] at this
theorem RelV.ofDat {c:Cx} {d:Dat} {v:Value} (h:RelI c.w (Imm c) d v):RelV c (V.ofDat d) v:=by
 cases d with
 | agg ds=>obtain ⟨vs,rfl,h2⟩:=h;exact ⟨vs,rfl,RelVL.ofL h2⟩
 | tuple ds=>
  obtain ⟨vs,rfl,h2⟩:=h
  refine ⟨vs,rfl,?_⟩
  induction ds generalizing vs with
  | nil=>simpa [RelL,RelVL] using h2
  | cons x xs ih=>
   obtain ⟨v,vs',rfl,g1,g2⟩:=h2
   refine ⟨v,vs',rfl,?_,ih vs' g2⟩
   cases x with
   | agg ds=>obtain ⟨us,rfl,h2⟩:=g1;exact ⟨us,rfl,RelVL.ofL h2⟩
   | _=>exact g1
 | _=>exact h
theorem wrap_in {k:IntKind} {n:Int} (h:inR k n=true):k.wrap n=n:=by
 cases k<;>simp [inR] at h<;>simp [IntKind.wrap,IntKind.bits,IntKind.signed]<;>omega
theorem WT_fit {P:Program} {Q:MExit→St→Prop} {k:IntKind} {n:Int} {q:Int→Tree} (h:WT P Q (fit k n q)):WT P Q (q (k.wrap n)):=by
 unfold fit at h
 simp only [WT] at h
 cases hb:inR k n with
 | true=>have:=h.1 hb;rwa [wrap_in hb]
 | false=>exact h.2 hb
theorem ref_dat {c:Cx} {id ver off len k:Nat} {xs:List (List Dat)} {gv:Value} (hl:look c.heap id=some (.arr k xs)) (h:RelV c (.ref id ver off len) gv):RelI c.w (Imm c) (.slice k ((xs.drop off).take len) false) gv:=by
 simp only [RelV,hl] at h
 obtain ⟨h1,h⟩:=h
 have hlen:((xs.drop off).take len).length=len:=by simp;omega
 rcases h with ⟨h2,h3,_⟩|⟨b,o,cap,h2,h3,h4,_⟩
 ·exact .inl ⟨⟨_,h2,by simp⟩,List.eq_nil_of_length_eq_zero (by omega)⟩
 ·exact .inr ⟨b,o,cap,by rw [hlen];exact h2,by rw [hlen];exact h3,by simp,h4⟩
theorem datGo_rel {c:Cx}:∀{vs:List V} {ds:List Dat} {us:List Value},V.dat.go c.heap vs=some ds→RelVL c vs us→RelL c.w (Imm c) ds us:=by
 intro vs
 induction vs with
 | nil=>intro ds us h r;simp [V.dat.go] at h;subst h;simpa [RelL,RelVL] using r
 | cons v vs ih=>
  intro ds us h r
  obtain ⟨u,us',rfl,r1,r2⟩:=r
  unfold V.dat.go at h
  split at h
  ·simp at *
  ·rename_i x rr heq
   simp only [List.cons.injEq] at heq
   obtain ⟨rfl,rfl⟩:=heq
   split at h
   ·rename_i l hl
    simp at h;subst h
    exact ⟨u,us',rfl,r1,ih hl r2⟩
   ·simp at h
  ·rename_i id ver off len rr heq
   simp only [List.cons.injEq] at heq
   obtain ⟨rfl,rfl⟩:=heq
   split at h
   ·rename_i k xs l hl1 hl2
    simp at h;subst h
    exact ⟨u,us',rfl,ref_dat hl1 r1,ih hl2 r2⟩
   ·simp at h
  ·rename_i f rr heq
   simp only [List.cons.injEq] at heq
   obtain ⟨rfl,rfl⟩:=heq
   split at h
   ·rename_i l hl
    simp at h;subst h
    obtain ⟨fs',vs',e1,e3,e2⟩:=r1
    simp [RelVL] at e2 e3;subst e2 e3
    exact ⟨u,us',rfl,e1,ih hl r2⟩
   ·simp at h
  ·simp at h
theorem dat_rel {c:Cx} {v:V} {x:Dat} {gv:Value} (h:v.dat c.heap=some x) (r:RelV c v gv):RelI c.w (Imm c) x gv:=by
 cases v with
 | d y=>simp [V.dat] at h;subst h;exact r
 | agg cs=>
  simp only [V.dat,Option.map_eq_some_iff] at h
  obtain ⟨ds,h1,rfl⟩:=h
  obtain ⟨us,rfl,h2⟩:=r
  exact ⟨us,rfl,datGo_rel h1 h2⟩
 | ref id ver off len=>
  simp only [V.dat] at h
  split at h
  ·rename_i k xs hl
   simp at h;subst h
   exact ref_dat hl r
  ·simp at h
 | func f fs cap=>
  cases fs with
  | cons a b=>simp [V.dat] at h
  | nil=>
   cases cap with
   | nil=>
    simp [V.dat] at h;subst h
    obtain ⟨fs',vs',e1,e3,e2⟩:=r
    simp [RelVL] at e2 e3;subst e2 e3
    exact e1
   | cons a b=>simp [V.dat] at h
 | _=>simp [V.dat] at h
theorem datList_rel {c:Cx}:∀{vs:List V} {ds:List Dat} {us:List Value},datList c.heap vs=some ds→RelVL c vs us→RelL c.w (Imm c) ds us:=by
 intro vs
 induction vs with
 | nil=>intro ds us h r;simp [datList] at h;subst h;simpa [RelL,RelVL] using r
 | cons v vs ih=>
  intro ds us h r
  obtain ⟨u,us',rfl,r1,r2⟩:=r
  unfold datList at h
  split at h
  ·rename_i x l h1 h2
   simp at h;subst h
   exact ⟨u,us',rfl,dat_rel h1 r1,ih h2 r2⟩
  ·simp at h
end Uw
namespace Uw
open Go Go.RowKit
variable [Glob]
def NextOK (P:Program) (Q:MExit→St→Prop) (q:V→St→Tree) (c:Cx) (w0:World) (n:Nat) (gs:Fr) (st:St) (a:Act) (dst:Option Tmp) (K:Act→World→Prop):Prop:=
 ∀c' st' v gv,c'.B=c.B→c'.J0=c.J0→Rel c' w0 n gs st' a→st'.regs=st.regs→RelV c' v gv→WT P Q (q v st')→K (a.put dst gv) c'.w
section
variable {P : Program} {Q : MExit → St → Prop} {q : V → St → Tree} {c : Cx} {w0 : World} {n : Nat} {gs : Fr} {st : St} {a : Act} {K : Act → World → Prop} {Qx : Exit → Act → World → Prop} {o : Oper}
theorem ok_same (r:Rel c w0 n gs st a) (hK:NextOK P Q q c w0 n gs st a o.dst K) {v:V} {gv:Value} (hv:RelV c v gv) (hq:WT P Q (q v st)) (h:(execOp a.eval o).run P c.w = .ok (.value gv) c.w):o.wp P a c.w K Qx:=
 wp_value h (hK c st v gv rfl rfl r rfl hv hq)
theorem mov_ok (r:Rel c w0 n gs st a) (hK:NextOK P Q q c w0 n gs st a o.dst K) {x:Operand} {y:Opd} (ho:o.op = .move x∨o.op = .assign x) (hc:compOpd x=some y)
  (h:WT P Q (match y.ev st with|some v=>q v st|none=>.fail)):o.wp P a c.w K Qx:=by
 cases hv:y.ev st with
 | none=>rw [hv] at h;exact h.elim
 | some v=>
  rw [hv] at h
  refine ok_same r hK (opd_rel r hc hv) h ?_
  rcases ho with ho|ho<;>simp [execOp,ho,pure,Sem.run]
theorem pick_ok (r:Rel c w0 n gs st a) (hK:NextOK P Q q c w0 n gs st a o.dst K) {x1 x2 x3:Operand} {y1 y2 y3:Opd} (ho:o.op = .pick x1 x2 x3) (h1:compOpd x1=some y1) (h2:compOpd x2=some y2) (h3:compOpd x3=some y3)
  {xx:MExit→St→Tree} (h:WT P Q (step (.pick y1 y2 y3) st q xx)):o.wp P a c.w K Qx:=by
 simp only [step,forceL_eq,place_eq,fillK_eq] at h
 split at h
 ·rename_i t ht
  have e1:=opd_rel r h1 ht
  simp only [RelV,RelI] at e1
  obtain ⟨g1,g2⟩:=h
  have key:∀b:Bool,t=b→o.wp P a c.w K Qx:=by
   intro b hb
   cases b with
   | true=>
    have g:=g1 hb
    cases hv:y2.ev st with
    | none=>rw [hv] at g;exact g.elim
    | some v=>
     rw [hv] at g
     refine ok_same r hK (opd_rel r h2 hv) g ?_
     simp [execOp,ho,e1,hb,asBool,pure,Bind.bind,Sem.bind,Sem.run]
   | false=>
    have g:=g2 hb
    cases hv:y3.ev st with
    | none=>rw [hv] at g;exact g.elim
    | some v=>
     rw [hv] at g
     refine ok_same r hK (opd_rel r h3 hv) g ?_
     simp [execOp,ho,e1,hb,asBool,pure,Bind.bind,Sem.bind,Sem.run]
  exact key t rfl
 ·exact h.elim
theorem push_var (r:Rel c w0 n gs st a) {cs:List V} {vs:Array Value} {e:TypeId} (h:RelVL c cs vs.toList) :
  Rel (c.push st.next 0 (.var cs) (.cells vs e)) w0 n gs (newBlk st (.var cs)) a:=
 r.push (by
  refine ⟨vs,e,?_,RelVL.evo (Evo.push r.hrel) _ _ h⟩
  show (c.w.heap.push (.cells vs e))[((c.push st.next 0 (.var cs) (.cells vs e)).pl st.next).gb]? = _
  simp [Cx.push])
theorem push_ptr (st:St) (cs:List V) (o:Obj):RelV (c.push st.next 0 (.var cs) o) (.ptr st.next 0) (.pointer (some ⟨c.w.heap.size,0,none⟩)):=by
 refine ⟨⟨cs,by simp [Cx.push,look_cons]⟩,?_⟩
 simp [Cx.push]
theorem box_ok (r:Rel c w0 n gs st a) (hK:NextOK P Q q c w0 n gs st a o.dst K) {t:TypeId} {x:Operand} {y:Opd} (ho:o.op = .box t x) (hc:compOpd x=some y)
  {xx:MExit→St→Tree} (h:WT P Q (step (.box y) st q xx)):o.wp P a c.w K Qx:=by
 simp only [step,forceL_eq,place_eq,fillK_eq] at h
 split at h
 ·rename_i v hv
  have e1:=cells_rel (opd_rel r hc hv) (ev_ne hv)
  refine wp_value (w':=c.w.alloc (.cells (a.eval x).cells t)) ?_ (hK (c.push st.next 0 (.var v.cells) (.cells (a.eval x).cells t)) _ _ _ rfl rfl (push_var r e1) rfl (push_ptr st _ _) h)
  simp [execOp,ho,Instr.box,newVar,newRow,newObj,pure,Bind.bind,Sem.bind,Sem.run]
 ·exact h.elim
theorem alloc_ok (r:Rel c w0 n gs st a) (hK:NextOK P Q q c w0 n gs st a o.dst K) {t:TypeId} {zs:List Dat} (ho:o.op = .alloc t) (hz:zeroT P t=some zs)
  {xx:MExit→St→Tree} (h:WT P Q (step (.alloc zs) st q xx)):o.wp P a c.w K Qx:=by
 simp only [step,forceL_eq,place_eq,fillK_eq] at h
 obtain ⟨v,hv,hd⟩:=run_zero (w:=c.w) hz
 refine wp_value (w':=c.w.alloc (.cells v.cells t)) ?_ (hK (c.push st.next 0 (.var (zs.map V.d)) (.cells v.cells t)) _ _ _ rfl rfl (push_var r (RelVL.ofL (datsOf_rel hd _ _))) rfl (push_ptr st _ _) h)
 have:(Instr.alloc t true (.tuple #[])).run P c.w = .ok (.pointer (some ⟨c.w.heap.size,0,none⟩)) (c.w.alloc (.cells v.cells t)):=by
  unfold Instr.alloc
  rw [run_bind_ok hv]
  simp [newVar,newRow,newObj,pure,Bind.bind,Sem.bind,Sem.run]
 simp only [execOp,ho]
 rw [run_bind_ok this]
 rfl
end
end Uw
namespace Uw
open Go Go.RowKit
variable [Glob]
theorem foldl_lay (off:Nat):∀(us:List Value) (j:Nat) (cs:Array Value),(us.zipIdx j).foldl (fun cs (p:Value×Nat)=>cs.setIfInBounds (off+p.2) p.1) cs=layAt cs (off+j) us
 | [],j,cs=>rfl
 | u::us,j,cs=>by
  rw [List.zipIdx_cons,List.foldl_cons,foldl_lay off us (j+1),layAt]
  rfl
theorem RelVL.cells_len {c:Cx} {x:V} {v:Value} (h:RelV c x v) (hx:x≠.undef):v.cells.size=x.cells.length:=by
 have:=(cells_rel h hx).length
 simpa using this
section
variable {P : Program} {Q : MExit → St → Prop} {q : V → St → Tree} {c : Cx} {w0 : World} {n : Nat} {gs : Fr} {st : St} {a : Act} {K : Act → World → Prop} {Qx : Exit → Act → World → Prop} {o : Oper} {xx : MExit → St → Tree}
theorem fill_rel (r:Rel c w0 n gs st a) {place:Nat→Option (Nat×Nat)}:∀(ps:List (Nat×Operand)) (qs:List (Nat×Nat×Opd)) (cs cs' : List V) (vs:Array Value),compParts place ps=some qs→
  RelVL c cs vs.toList→fillParts st cs qs=some cs'→∃vs',Instr.fill place vs (ps.map fun (i,x)=>(i,a.eval x))=some vs'∧RelVL c cs' vs'.toList:=by
 intro ps
 induction ps with
 | nil=>
  intro qs cs cs' vs h1 h2 h3
  simp [compParts] at h1;subst h1
  simp [fillParts] at h3;subst h3
  exact ⟨vs,rfl,h2⟩
 | cons p ps ih=>
  intro qs cs cs' vs h1 h2 h3
  obtain ⟨i,x⟩:=p
  simp only [compParts] at h1
  split at h1
  ·rename_i off n' o' l hp ho hl
   simp at h1;subst h1
   simp only [fillParts] at h3
   split at h3
   ·rename_i v hv
    split at h3
    ·rename_i hb
     rw [Bool.and_eq_true] at hb
     have hb1:=Nat.eq_of_beq_eq_true hb.1
     have hb2:=Nat.le_of_ble_eq_true hb.2
     have hr:=opd_rel r ho hv
     have hcl:=RelVL.cells_len hr (ev_ne hv)
     have hlen:=h2.length
     obtain ⟨vs',g1,g2⟩:=ih l _ cs' (layAt vs off (a.eval x).cells.toList) hl (RelVL.setAt (cells_rel hr (ev_ne hv)) off h2) h3
     refine ⟨vs',?_,g2⟩
     simp only [List.map_cons,Instr.fill,hp]
     have hsz:vs.size=cs.length:=by simpa using hlen
     rw [if_neg (by simp;omega)]
     have e:=foldl_lay off (a.eval x).cells.toList 0 vs
     simp only [Nat.add_zero] at e
     rw [← Array.foldl_toList,Array.toList_zipIdx,e]
     exact g1
    ·simp at h3
   ·simp at h3
  ·simp at h1
theorem build_ok (r:Rel c w0 n gs st a) (hK:NextOK P Q q c w0 n gs st a o.dst K) {t:TypeId} {ps:Array (Nat×Operand)} {place:Nat→Option (Nat×Nat)} {zs:List Dat} {qs:List (Nat×Nat×Opd)} (ho:o.op = .build t ps)
  (hp:placeT P t=some place) (hz:zeroT P t=some zs) (hq:compParts place ps.toList=some qs) (h:WT P Q (step (.build zs qs) st q xx)):o.wp P a c.w K Qx:=by
 simp only [step,forceL_eq,place_eq,fillK_eq] at h
 split at h
 ·rename_i cs hcs
  unfold zeroT at hz
  split at hz
  ·rename_i i hi
   split at hz
   ·rename_i z hzero
    obtain ⟨vs',g1,g2⟩:=fill_rel r ps.toList qs _ cs z.cells hq (RelVL.ofL (datsOf_rel hz _ _)) hcs
    have hb:P.built t (ps.map fun (i,x)=>(i,a.eval x)).toList=some vs':=by
     unfold Program.built
     unfold placeT at hp
     rw [hi] at hp ⊢
     split at hp
     ·rename_i e hu h2
      split at hp
      ·rename_i ie hie
       simp at hp;subst hp
       simp only [h2,hzero,hie]
       simpa using g1
      ·simp at hp
     ·rename_i fs hu h2
      split at hp
      ·rename_i places hpl
       simp at hp;subst hp
       simp only [h2,hzero,hpl]
       simpa using g1
      ·simp at hp
     ·simp at hp
    refine ok_same r hK (v:=.agg cs) (gv:=.agg vs') ⟨vs'.toList,by simp,g2⟩ h ?_
    simp only [execOp,ho]
    rw [run_bind_ok (run_build c.w t _ vs' hb)]
    rfl
   ·simp at hz
  ·simp at hz
 ·exact h.elim
theorem run_loadAt {t:TypeId} {v:Value} {b o:Nat} {u:Value} {w:World} (hv:v = .pointer (some ⟨b,o,none⟩)) (h:(loadVar t ⟨b,o,none⟩).run P w = .ok u w):(Instr.loadAt t v).run P w = .ok u w:=by
 subst hv
 unfold Instr.loadAt
 rw [run_bind_ok (s:=Instr.sureAddr _) (x:=⟨b,o,none⟩) (w':=w) rfl]
 exact h
theorem RelL.drop {w:World} {J:Nat→Nat→Prop}:∀{xs:List Dat} {vs:List Value},RelL w J xs vs→∀n,RelL w J (xs.drop n) (vs.drop n):=by
 intro xs
 induction xs with
 | nil=>intro vs hh n;simp [RelL] at hh;subst hh;simp [RelL]
 | cons y ys ih=>
  intro vs hh n
  obtain ⟨v,vs',rfl,h2,h3⟩:=hh
  cases n with
  | zero=>exact ⟨v,vs',rfl,h2,h3⟩
  | succ n=>simpa using ih h3 n
theorem RelL.take {w:World} {J:Nat→Nat→Prop}:∀{xs:List Dat} {vs:List Value},RelL w J xs vs→∀n,RelL w J (xs.take n) (vs.take n):=by
 intro xs
 induction xs with
 | nil=>intro vs hh n;simp [RelL] at hh;subst hh;simp [RelL]
 | cons y ys ih=>
  intro vs hh n
  obtain ⟨v,vs',rfl,h2,h3⟩:=hh
  cases n with
  | zero=>simp [RelL]
  | succ n=>exact ⟨v,vs'.take n,rfl,h2,ih h3 n⟩
theorem flatten_at {α:Type} {k:Nat}:∀{xs:List (List α)} (h:∀x∈xs,x.length=k) {i:Nat} {cs:List α},xs[i]? = some cs→(xs.flatten.drop (i * k)).take k=cs
 | [],_,i,cs,hi=>by simp at hi
 | x::xs,h,i,cs,hi=>by
  have hx:=h x (by simp)
  cases i with
  | zero=>simp at hi;subst hi;simp [hx]
  | succ i=>
   simp at hi
   rw [List.flatten_cons,show (i+1) * k=k+i * k by rw [Nat.add_mul];omega,← hx,List.drop_length_add_append]
   have:=flatten_at (fun y hy=>h y (by simp [hy])) hi
   rw [hx];exact this
theorem flatten_len {α:Type} {k:Nat}:∀{xs:List (List α)} (h:∀x∈xs,x.length=k),xs.flatten.length=xs.length * k
 | [],_=>by simp
 | x::xs,h=>by
  rw [List.flatten_cons,List.length_append,h x (by simp),flatten_len (fun y hy=>h y (by simp [hy])),List.length_cons,Nat.add_mul];omega
theorem mt_cells {w:World} {J:Nat→Nat→Prop} {b:Nat} {vs:Array Value} {e:TypeId} {cap k i:Nat} {xs:List (List Dat)} {cs:List Dat} (h1:w.heap[b]? = some (.cells vs e (0,0))) (h2:vs.size=cap * k) (h3:xs.length≤cap) (h4:∀x∈xs,x.length=k)
  (h5:RelL w J xs.flatten (vs.toList.take (xs.length * k))) (hi:xs[i]? = some cs):∃us:List Value,RelL w J cs us∧∀j v,us[j]? = some v→w.cell? ⟨b,i * k+j,none⟩=some v:=by
 have h6:=(h5.drop (i * k)).take k
 rw [flatten_at h4 hi] at h6
 refine ⟨_,h6,?_⟩
 intro j v hv
 rw [cell_in_block h1]
 rw [List.getElem?_take] at hv
 split at hv
 ·rw [List.getElem?_drop,List.getElem?_take] at hv
  split at hv
  ·simpa using hv
  ·simp at hv
 ·simp at hv
theorem load_ok (r:Rel c w0 n gs st a) (hK:NextOK P Q q c w0 n gs st a o.dst K) {t:TypeId} {x:Operand} {y:Opd} {g:Bool} {m:Nat} (ho:o.op = .load t x) (hg:isAggT P t=some g) (hm:sizeT P t=some m) (hc:compOpd x=some y)
  (h:WT P Q (step (.load g m y) st q xx)):o.wp P a c.w K Qx:=by
 simp only [step,forceL_eq,place_eq,fillK_eq] at h
 split at h
 ·rename_i id off hv
  split at h
  ·rename_i cs hl
   split at h
   ·rename_i hle
    have hle:=Nat.le_of_ble_eq_true hle
    split at h
    ·rename_i v hmk
     have e1:=opd_rel r hc hv
     obtain ⟨⟨cs0,e2⟩,e3⟩:=e1
     have hl' : look c.heap id=some (.var cs):=by rw [r.heap];exact hl
     obtain ⟨vs,e,h1,h2⟩:=r.hrel.blk id _ hl'
     have hlen:=h2.length
     have h3:=(h2.drop off).take m
     obtain ⟨u,hu,hru⟩:=pack_rel h3 hmk
     refine ok_same r hK hru h ?_
     simp only [execOp,ho]
     rw [run_bind_ok (run_loadAt e3 (run_loadVar hg hm ?_ hu ?_))]
     ·rfl
     ·simp at hlen ⊢;omega
     ·intro j x hx
      rw [cell_in_block h1]
      rw [List.getElem?_take] at hx
      split at hx
      ·simpa using hx
      ·simp at hx
    ·exact h.elim
   ·exact h.elim
  ·exact h.elim
 ·rename_i cs off hv
  split at h
  ·rename_i hle
   have hle:=Nat.le_of_ble_eq_true hle
   split at h
   ·rename_i v hmk
    have e1:=opd_rel r hc hv
    obtain ⟨b,o',e2,e3⟩:=e1
    obtain ⟨vs,g1,g2⟩:=RelC.vals ((e3.drop off).take m)
    obtain ⟨u,hu,hru⟩:=pack_rel (RelVL.ofL g1) hmk
    refine ok_same r hK hru h ?_
    simp only [execOp,ho]
    rw [run_bind_ok (run_loadAt e2 (run_loadVar hg hm ?_ hu g2))]
    ·rfl
    ·rw [g1.length];simp;omega
   ·exact h.elim
  ·exact h.elim
 ·rename_i id ver i cc hv
  split at h
  ·rename_i k ver' xs hl
   simp only [WT] at h
   cases hbv:Nat.beq ver ver' with
   | false=>exact (h.2 hbv).elim
   | true=>
    have hg:=h.1 hbv
    clear h
    have hb:=Nat.eq_of_beq_eq_true hbv
    subst hb
    obtain ⟨cs,hcs,h⟩:=hg
    split at h
    ·rename_i hle
     have hle:=Nat.le_of_ble_eq_true hle
     split at h
     ·rename_i v hmk
      have e1:=opd_rel r hc hv
      have hl' : look c.heap id=some (.mt k ver xs):=by rw [r.heap];exact hl
      simp only [RelV,hl'] at e1
      obtain ⟨_,_,e2⟩:=e1
      obtain ⟨e3,e4⟩:=e2 rfl
      obtain ⟨b3,b4,bb⟩:=r.hrel.blk id _ hl'
      obtain ⟨vs,e,b1,b2,b5,b6⟩:=bb (by omega)
      obtain ⟨us,g1,g2⟩:=mt_cells b1 b2 b3 b4 b5 hcs
      have g3:RelL c.w (Imm c) ((cs.drop cc).take m) ((us.drop cc).take m):=(g1.drop cc).take m
      obtain ⟨u,hu,hru⟩:=pack_rel (RelVL.ofL g3) hmk
      refine ok_same r hK hru h ?_
      simp only [execOp,ho]
      rw [run_bind_ok (run_loadAt e4 (run_loadVar hg hm ?_ hu ?_))]
      ·rfl
      ·rw [g3.length];simp;omega
      ·intro j x hx
       rw [List.getElem?_take] at hx
       split at hx
       ·rw [List.getElem?_drop] at hx
        have:=g2 (cc+j) x hx
        rw [show i * k+cc+j=i * k+(cc+j) by omega]
        exact this
       ·simp at hx
     ·exact h.elim
    ·exact h.elim
  ·exact h.elim
 ·exact h.elim
theorem Laid.below {w w' : World} {b:Nat} {vs:Array Value} {e:TypeId} (h:Laid w w' b vs e) {B:Nat} (hB:B≤b):Below B w w':=
 ⟨h.os,h.tape,h.output,by rw [h.size];exact Nat.le_refl _,fun k hk=>h.other k (by omega)⟩
theorem setAt_length {α:Type}:∀(ys xs:List α) (i:Nat),(setAt xs i ys).length=xs.length
 | [],xs,i=>rfl
 | y::ys,xs,i=>by rw [setAt,setAt_length ys];simp
theorem mem_setAt {α:Type} {x:α}:∀{ys xs:List α} {i:Nat},x∈setAt xs i ys→x∈xs∨x∈ys
 | [],xs,i,h=>.inl h
 | y::ys,xs,i,h=>by
  rw [setAt] at h
  rcases mem_setAt h with h|h
  ·rcases List.mem_or_eq_of_mem_set h with h|h
   ·exact .inl h
   ·exact .inr (by simp [h])
  ·exact .inr (by simp [h])
theorem layAt_list:∀(us:List Value) (vs:Array Value) (o:Nat),(layAt vs o us).toList=setAt vs.toList o us
 | [],vs,o=>rfl
 | u::us,vs,o=>by rw [layAt,setAt,layAt_list us,Array.toList_setIfInBounds]
theorem setAt_get {α:Type}:∀(ys xs:List α) (i j:Nat),(setAt xs i ys)[j]? = if i≤j∧j<i+ys.length∧j<xs.length then ys[j - i]? else xs[j]?
 | [],xs,i,j=>by rw [setAt,if_neg (by simp;omega)]
 | y::ys,xs,i,j=>by
  rw [setAt,setAt_get ys]
  simp only [List.length_set,List.getElem?_set,List.length_cons]
  by_cases h1:i=j
  ·subst h1
   by_cases h2:i<xs.length
   ·simp [h2];omega
   ·simp [h2]
  ·by_cases h2:i+1≤j∧j<i+1+ys.length∧j<xs.length
   ·rw [if_pos h2,if_pos (by omega),show j - i=(j - (i+1))+1 by omega];simp
   ·rw [if_neg h2,if_neg h1,if_neg (by omega)]
theorem RelL.setAt {w:World} {J:Nat→Nat→Prop} {xs ys:List Dat} {vs us:List Value} (h:RelL w J xs vs) (h2:RelL w J ys us) (i:Nat):RelL w J (setAt xs i ys) (Uw.setAt vs i us):=by
 have set1:∀{xs:List Dat} {vs:List Value},RelL w J xs vs→∀(i:Nat) {x:Dat} {v:Value},RelI w J x v→RelL w J (xs.set i x) (vs.set i v):=by
  intro xs
  induction xs with
  | nil=>intro vs hh i x v _;simp [RelL] at hh;subst hh;simp [RelL]
  | cons y ys ih=>
   intro vs hh i x v h
   obtain ⟨u,vs',rfl,h2,h3⟩:=hh
   cases i with
   | zero=>exact ⟨v,vs',rfl,h,h3⟩
   | succ i=>exact ⟨u,vs'.set i v,rfl,h2,ih h3 i h⟩
 induction ys generalizing xs vs us i with
 | nil=>simp [RelL] at h2;subst h2;simpa [Uw.setAt] using h
 | cons y ys ih=>
  obtain ⟨u,us',rfl,g1,g2⟩:=h2
  rw [Uw.setAt,Uw.setAt]
  exact ih (set1 h i g1) g2 (i+1)
theorem flatten_set {α:Type} {k:Nat}:∀{xs:List (List α)} (h:∀x∈xs,x.length=k) {i cc:Nat} {cs ds:List α},xs[i]? = some cs→cc+ds.length≤k→(xs.set i (setAt cs cc ds)).flatten=setAt xs.flatten (i * k+cc) ds:=by
 intro xs h i cc cs ds hi hle
 have hsl:(setAt cs cc ds).length=cs.length:=setAt_length _ _ _
 have hcs:cs.length=k:=h cs (List.mem_of_getElem? hi)
 apply List.ext_getElem?
 intro j
 rw [setAt_get]
 induction xs generalizing i j with
 | nil=>simp at hi
 | cons x xs ih=>
  have hx:=h x (by simp)
  have hxs:∀y∈xs,y.length=k:=fun y hy=>h y (by simp [hy])
  cases i with
  | zero=>
   simp at hi;subst hi
   simp only [List.set_cons_zero,List.flatten_cons,Nat.zero_mul,Nat.zero_add]
   by_cases hj:j<k
   ·rw [List.getElem?_append_left (by omega),setAt_get]
    by_cases hc:cc≤j∧j<cc+ds.length
    ·rw [if_pos ⟨hc.1,hc.2,by omega⟩,if_pos ⟨hc.1,hc.2,by simp;omega⟩]
    ·rw [if_neg (by omega),if_neg (by omega),List.getElem?_append_left (by omega)]
   ·rw [List.getElem?_append_right (by omega),if_neg (by omega),List.getElem?_append_right (by omega),hsl]
  | succ i=>
   simp at hi
   simp only [List.set_cons_succ,List.flatten_cons]
   have e:(i+1) * k=k+i * k:=by rw [Nat.add_mul];omega
   by_cases hj:j<k
   ·rw [List.getElem?_append_left (by omega),if_neg (by omega),List.getElem?_append_left (by omega)]
   ·rw [List.getElem?_append_right (by omega),ih hxs hi (j - x.length)]
    simp only [List.length_append]
    by_cases hc:i * k+cc≤j - x.length∧j - x.length<i * k+cc+ds.length∧j - x.length<xs.flatten.length
    ·rw [if_pos hc,if_pos (by omega)]
     congr 1
     omega
    ·rw [if_neg hc,if_neg (by omega),List.getElem?_append_right (by omega)]
theorem take_setAt {α:Type} (xs ys:List α) (i n:Nat) (h:i+ys.length≤n):(setAt xs i ys).take n=setAt (xs.take n) i ys:=by
 apply List.ext_getElem?
 intro j
 rw [List.getElem?_take,setAt_get,setAt_get,List.getElem?_take]
 simp only [List.length_take]
 by_cases hj:j<n
 ·rw [if_pos hj,if_pos hj]
  by_cases hc:i≤j∧j<i+ys.length∧j<xs.length
  ·rw [if_pos hc,if_pos (by omega)]
  ·rw [if_neg hc,if_neg (by omega)]
 ·rw [if_neg hj,if_neg (by omega),if_neg hj]
theorem mt_set {w:World} {J:Nat→Nat→Prop} {vs:Array Value} {cap k i cc:Nat} {xs:List (List Dat)} {cs ds:List Dat} {us:List Value} (h2:vs.size=cap * k) (h3:xs.length≤cap) (h4:∀x∈xs,x.length=k)
  (h5:RelL w J xs.flatten (vs.toList.take (xs.length * k))) (hi:xs[i]? = some cs) (h6:RelL w J ds us) (hle:cc+ds.length≤k) :
  RelL w J (xs.set i (setAt cs cc ds)).flatten ((layAt vs (i * k+cc) us).toList.take ((xs.set i (setAt cs cc ds)).length * k)):=by
 have hilt:i<xs.length:=by
  by_cases hh:i<xs.length
  ·exact hh
  ·rw [List.getElem?_eq_none (by omega)] at hi;cases hi
 have hik:(i+1) * k≤xs.length * k:=Nat.mul_le_mul_right _ (by omega)
 have hik' : i * k+k=(i+1) * k:=by rw [Nat.add_mul];omega
 rw [flatten_set h4 hi hle,layAt_list,List.length_set,take_setAt _ _ _ _ (by rw [h6.length];omega)]
 exact RelL.setAt h5 h6 _
theorem store_ok (r:Rel c w0 n gs st a) (hK:NextOK P Q q c w0 n gs st a o.dst K) {t:TypeId} {x1 x2:Operand} {y1 y2:Opd} {m:Nat} (ho:o.op = .store t x1 x2) (hm:sizeT P t=some m) (hc1:compOpd x1=some y1) (hc2:compOpd x2=some y2)
  (h:WT P Q (step (.store m y1 y2) st q xx)):o.wp P a c.w K Qx:=by
 simp only [step,forceL_eq,place_eq,fillK_eq] at h
 split at h
 ·rename_i id off v hv1 hv2
  split at h
  ·rename_i cs hl
   split at h
   ·rename_i hb
    rw [Bool.and_eq_true,Bool.and_eq_true] at hb
    have hb1:=Nat.eq_of_beq_eq_true hb.1.1
    have hb2:=Nat.le_of_ble_eq_true hb.1.2
    have hb3:=hb.2
    obtain ⟨⟨cs0,_⟩,e3⟩:=opd_rel r hc1 hv1
    have e4:=opd_rel r hc2 hv2
    have e5:=cells_rel e4 (ev_ne hv2)
    have hl' : look c.heap id=some (.var cs):=by rw [r.heap];exact hl
    obtain ⟨vs,e,h1,h2⟩:=r.hrel.blk id _ hl'
    have hlen:=h2.length
    have hcl:=RelVL.cells_len e4 (ev_ne hv2)
    have hone:∀u∈(a.eval x2).cells.toList,one u=true:=by
     intro u hu
     obtain ⟨i,hi⟩:=List.getElem?_of_mem hu
     obtain ⟨z,hz,hzr⟩:=e5.get' i u hi
     exact one_rel hzr (List.all_eq_true.1 hb3 z (List.mem_of_getElem? hz))
    obtain ⟨w',hw',L⟩:=run_storeVar (P:=P) (w:=c.w) hm (by omega) hone h1 (o:=off) (by simp at hlen;omega)
    have hev:=Evo.setVar (cs':=setAt cs off v.cells) r.hrel hl' L.other L.size
    have hH:HRel { c with heap:=(id,.var (setAt cs off v.cells))::c.heap,w:=w' } w0 st.next:=by
     refine r.hrel.setVar hl' (L.below (r.hrel.geB hl' trivial)) L.other L.size ?_
     exact ⟨_,e,L.here,RelVL.evo hev _ _ (RelVL.setAt e5 off h2)⟩
    refine wp_skip' (w':=w') ?_ (hK { c with heap:=(id,.var (setAt cs off v.cells))::c.heap,w:=w' } { st with heap:=(id,.var (setAt cs off v.cells))::st.heap } .undef _ rfl rfl (r.evo hev (by simp [r.heap]) hH rfl rfl rfl (Nat.le_refl _)) rfl (by simp [RelV]) h)
    simp only [execOp,ho]
    have:(Instr.storeAt t (a.eval x1) (a.eval x2)).run P c.w = .ok () w':=by
     rw [e3]
     unfold Instr.storeAt
     rw [run_bind_ok (s:=Instr.sureAddr _) (x:=⟨(c.pl id).gb,off,none⟩) (w':=c.w) rfl]
     exact hw'
    rw [run_bind_ok this]
    rfl
   ·exact h.elim
  ·exact h.elim
 ·rename_i id ver i cc v hv1 hv2
  split at h
  ·rename_i k ver' xs hl
   split at h
   ·rename_i ds hds
    simp only [WT] at h
    have hbv:Nat.beq ver ver' = true:=by
     cases hbv:Nat.beq ver ver' with
     | false=>exact (h.2 hbv).elim
     | true=>rfl
    have hg:=h.1 hbv
    clear h
    have hb:=Nat.eq_of_beq_eq_true hbv
    subst hb
    obtain ⟨cs,hcs,h⟩:=hg
    split at h
    ·rename_i hb
     rw [Bool.and_eq_true,Bool.and_eq_true] at hb
     have hb1:=Nat.eq_of_beq_eq_true hb.1.1
     have hb2:=Nat.le_of_ble_eq_true hb.1.2
     have hb3:=hb.2
     have hl' : look c.heap id=some (.mt k ver xs):=by rw [r.heap];exact hl
     have e3:=opd_rel r hc1 hv1
     simp only [RelV,hl'] at e3
     obtain ⟨_,_,e3⟩:=e3
     obtain ⟨e3i,e3⟩:=e3 rfl
     have e4:=opd_rel r hc2 hv2
     have e5:=cells_rel e4 (ev_ne hv2)
     rw [← r.heap] at hds
     have e6:=datList_rel hds e5
     obtain ⟨b3,b4,bb⟩:=r.hrel.blk id _ hl'
     have hcap:0<(c.pl id).cap:=by omega
     obtain ⟨vs,e,b1,b2,b5,b6⟩:=bb hcap
     have hcl:=RelVL.cells_len e4 (ev_ne hv2)
     have hdl:=e6.length
     have hdl' : (a.eval x2).cells.size=m:=by simp at hdl;omega
     have hone:∀u∈(a.eval x2).cells.toList,one u=true:=by
      intro u hu
      obtain ⟨i,hi⟩:=List.getElem?_of_mem hu
      obtain ⟨z,hz,hzr⟩:=e5.get' i u hi
      exact one_rel hzr (List.all_eq_true.1 hb3 z (List.mem_of_getElem? hz))
     have hcsl:cs.length=k:=b4 cs (List.mem_of_getElem? hcs)
     have hik:(i+1) * k≤(c.pl id).cap * k:=Nat.mul_le_mul_right _ (by omega)
     have hik' : i * k+k=(i+1) * k:=by rw [Nat.add_mul];omega
     obtain ⟨w',hw',L⟩:=run_storeVar (P:=P) (w:=c.w) hm hdl' hone b1 (o:=i * k+cc) (by omega)
     have hgb:=r.hrel.geB hl' hcap
     have hpl:c.pl=(c.setBlk id (.mt k ver (xs.set i (setAt cs cc ds))) (c.pl id) w').pl:=by
      funext z;simp only [Cx.setBlk];split
      ·rename_i hz;rw [hz]
      ·rfl
     have hev:Evo c (c.setBlk id (.mt k ver (xs.set i (setAt cs cc ds))) (c.pl id) w'):=by
      refine Evo.setBlk r.hrel hl' (fun k' _ hk'=>L.other k' (hk' hcap)) (by rw [L.size];exact Nat.le_refl _) (.inl ⟨rfl,fun _=>hcap⟩) ?_ ⟨rfl,Nat.le_refl _,fun _=>⟨rfl,by simp⟩⟩
      intro _ o' hi
      exfalso
      rcases hi with hi|⟨_,_,g3⟩
      ·exact r.hrel.ge id _ hl' hcap hi.1
      ·obtain ⟨_,_,hh,_⟩:=g3 id _ hl' hcap rfl;cases hh
     have hcl2:(setAt cs cc ds).length=k:=by rw [setAt_length];exact hcsl
     have hH:HRel (c.setBlk id (.mt k ver (xs.set i (setAt cs cc ds))) (c.pl id) w') w0 st.next:=by
      refine r.hrel.setBlk hl' hev (fun k' _ hk'=>L.other k' (hk' hcap)) (L.below hgb) (.inl ⟨rfl,fun _=>hcap⟩) ?_
      refine ⟨by rw [look_setBlk_same.2];simpa using b3,?_,fun _=>⟨layAt vs (i * k+cc) (a.eval x2).cells.toList,e,?_,?_,?_,?_⟩⟩
      rotate_left
      ·rw [look_setBlk_same.2];exact L.here
      ·rw [look_setBlk_same.2,size_layAt];exact b2
      rotate_left 2
      ·intro x hx
       rcases List.mem_or_eq_of_mem_set hx with hx|hx
       ·exact b4 x hx
       ·rw [hx];exact hcl2
      ·refine RelL.keep hev.keeps _ _ ?_
       exact mt_set b2 b3 b4 b5 hcs e6 (by omega)
      ·intro u hu
       rw [layAt_list,List.length_set] at hu
       have hik2:(i+1) * k≤xs.length * k:=Nat.mul_le_mul_right _ (by omega)
       rw [take_setAt _ _ _ _ (by simp at hdl ⊢;omega)] at hu
       rcases mem_setAt hu with hu|hu
       ·exact b6 u hu
       ·exact hone u hu
     have hst:(c.setBlk id (.mt k ver (xs.set i (setAt cs cc ds))) (c.pl id) w').heap=(id,.mt k ver (xs.set i (setAt cs cc ds)))::st.heap:=by
      simp [Cx.setBlk,r.heap]
     refine wp_skip' (w':=w') ?_ (hK (c.setBlk id (.mt k ver (xs.set i (setAt cs cc ds))) (c.pl id) w') { st with heap:=(id,.mt k ver (xs.set i (setAt cs cc ds)))::st.heap } .undef _ rfl rfl (r.evo hev hst hH rfl rfl rfl (Nat.le_refl _)) rfl (by simp [RelV]) h)
     simp only [execOp,ho]
     have:(Instr.storeAt t (a.eval x1) (a.eval x2)).run P c.w = .ok () w':=by
      rw [e3]
      unfold Instr.storeAt
      rw [run_bind_ok (s:=Instr.sureAddr _) (x:=⟨(c.pl id).gb,i * k+cc,none⟩) (w':=c.w) rfl]
      exact hw'
     rw [run_bind_ok this]
     rfl
    ·exact h.elim
   ·exact h.elim
  ·exact h.elim
 ·exact h.elim
end
end Uw
namespace Uw
open Go Go.RowKit
variable [Glob]
section
variable {P : Program} {Q : MExit → St → Prop} {q : V → St → Tree} {c : Cx} {w0 : World} {n : Nat} {gs : Fr} {st : St} {a : Act} {K : Act → World → Prop} {Qx : Exit → Act → World → Prop} {o : Oper} {xx : MExit → St → Tree}
theorem run_fieldAt {s:TypeId} {fs:Array Field} {f m b o' : Nat} {fd:Field} {v:Value} {w:World} (hu:P.underlying s=some (.struct fs)) (hf:fs[f]? = some fd) (hm:sizeT P fd.type=some (m+1)) (hv:v = .pointer (some ⟨b,o',none⟩)) :
  (Instr.fieldAt s v f).run P w = .ok (.pointer (some ⟨b,o' + fd.offset,none⟩)) w:=by
 subst hv
 unfold Instr.fieldAt
 rw [run_bind_ok (run_und hu)]
 simp only [hf]
 rw [run_bind_ok (s:=Instr.sureAddr _) (x:=⟨b,o',none⟩) (w':=w) rfl]
 have:(fieldPlace ⟨b,o',none⟩ fd).run P w = .ok ⟨b,o' + fd.offset,none⟩ w:=by
  unfold fieldPlace
  rw [run_bind_ok (run_size hm)]
  simp only [Nat.add_one_ne_zero,if_false,addr_add]
  rfl
 rw [run_bind_ok this]
 rfl
theorem fld_ok (r:Rel c w0 n gs st a) (hK:NextOK P Q q c w0 n gs st a o.dst K) {s:TypeId} {fs:Array Field} {f m:Nat} {fd:Field} {x:Operand} {y:Opd} (ho:o.op = .fieldAddr s x f)
  (hu:P.underlying s=some (.struct fs)) (hf:fs[f]? = some fd) (hm:sizeT P fd.type=some (m+1)) (hc:compOpd x=some y) (h:WT P Q (step (.fld fd.offset y) st q xx)):o.wp P a c.w K Qx:=by
 simp only [step] at h
 cases hv:y.ev st with
 | none=>rw [hv] at h;exact h.elim
 | some v=>
  rw [hv] at h
  have e1:=opd_rel r hc hv
  cases v with
  | ptr id o'=>
   obtain ⟨e2,e3⟩:=e1
   refine ok_same r hK (v:=.ptr id (o' + fd.offset)) ⟨e2,rfl⟩ h ?_
   simp only [execOp,ho]
   rw [run_bind_ok (run_fieldAt hu hf hm e3)]
   rfl
  | ro cs o'=>
   obtain ⟨b,o2,e2,e3⟩:=e1
   refine ok_same r hK (v:=.ro cs (o' + fd.offset)) (gv:=.pointer (some ⟨b,o2+o' + fd.offset,none⟩)) ⟨b,o2,by rw [Nat.add_assoc],e3⟩ h ?_
   simp only [execOp,ho]
   rw [run_bind_ok (run_fieldAt hu hf hm e2)]
   rfl
  | _=>exact h.elim
theorem nilck_ok (r:Rel c w0 n gs st a) (hK:NextOK P Q q c w0 n gs st a o.dst K) {x:Operand} {y:Opd} (ho:o.op = .nilCheck x) (hc:compOpd x=some y) (h:WT P Q (step (.nilck y) st q xx)):o.wp P a c.w K Qx:=by
 simp only [step] at h
 cases hv:y.ev st with
 | none=>rw [hv] at h;exact h.elim
 | some v=>
  rw [hv] at h
  have e1:=opd_rel r hc hv
  have e1':=e1
  cases v with
  | ptr id o'=>
   obtain ⟨e2,e3⟩:=e1'
   refine ok_same r hK e1 h ?_
   simp [execOp,ho,e3]
  | ro cs o'=>
   obtain ⟨b,o2,e2,e3⟩:=e1'
   refine ok_same r hK e1 h ?_
   simp [execOp,ho,e2]
  | _=>exact h.elim
theorem run_indexAt_slice {t e:TypeId} {k b o' len cap:Nat} {ik:IntKind} {i:Int} {v u:Value} {w:World} (hu:P.underlying t=some (.slice e)) (hk:sizeT P e=some k) (hv:v = .slice (some ⟨b,o',none⟩) len cap) (hi:u = .int ik i)
  (h1:0≤i) (h2:i<len):(Instr.indexAt t v u).run P w = .ok (.pointer (some ⟨b,o' + i.toNat * k,none⟩)) w:=by
 subst hv hi
 simp [Instr.indexAt,asIntOf,run_und hu,run_size hk,h1,h2,addr_add,pure,Sem.run]
theorem idx_ok (r:Rel c w0 n gs st a) (hK:NextOK P Q q c w0 n gs st a o.dst K) {t e:TypeId} {k:Nat} {x i:Operand} {y j:Opd} (ho:o.op = .indexAddr t x i) (hu:P.underlying t=some (.slice e)) (hk:sizeT P e=some k)
  (hc1:compOpd x=some y) (hc2:compOpd i=some j) (h:WT P Q (step (.idx k y j) st q xx)):o.wp P a c.w K Qx:=by
 simp only [step] at h
 split at h
 ·rename_i k' xs z ik m hv1 hv2
  split at h
  ·rename_i hb
   have hb:=Nat.eq_of_beq_eq_true hb
   subst hb
   have e5:=opd_rel r hc2 hv2
   simp only [RelV,RelI] at e5
   simp only [WT] at h
   obtain ⟨g1,g2⟩:=h
   cases hb:(decide (0≤m)&&decide (m<(xs.length:Int))) with
   | false=>exact (g2 hb).elim
   | true=>
    obtain ⟨cs,hcs,hq⟩:=g1 hb
    simp at hb
    have e0:=opd_rel r hc1 hv1
    simp only [RelV,RelI] at e0
    rcases e0 with ⟨_,e0⟩|⟨b,o',cap,e1,e2,e3,e4⟩
    ·subst e0;simp at hcs
    obtain ⟨f1,f2⟩:=e4.get m.toNat cs hcs
    refine ok_same r hK (v:=.ro cs 0) (gv:=.pointer (some ⟨b,o' + m.toNat * k,none⟩)) ⟨b,o' + m.toNat * k,rfl,f2⟩ hq ?_
    simp only [execOp,ho]
    rw [run_bind_ok (run_indexAt_slice hu hk e1 e5 hb.1 hb.2)]
    rfl
  ·exact h.elim
 ·rename_i id ver off len ik m hv1 hv2
  have e1:=opd_rel r hc1 hv1
  have e5:=opd_rel r hc2 hv2
  simp only [RelV,RelI] at e5
  simp only [RelV] at e1
  rw [r.heap] at e1
  split at h
  ·rename_i k' xs hl
   rw [hl] at e1
   split at h
   ·rename_i hb
    have hb:=Nat.eq_of_beq_eq_true hb
    subst hb
    obtain ⟨f1,e1⟩:=e1
    simp only [WT] at h
    obtain ⟨g1,g2⟩:=h
    cases hb:(decide (0≤m)&&decide (m<(len:Int))) with
    | false=>exact (g2 hb).elim
    | true=>
     obtain ⟨cs,hcs,hq⟩:=g1 hb
     simp at hb
     rcases e1 with ⟨_,e1,_⟩|⟨b,o',cap,f2,f3,f4,f5⟩
     ·omega
     have hcs' : ((xs.drop off).take len)[m.toNat]? = some cs:=by
      rw [List.getElem?_take,if_pos (by omega),List.getElem?_drop];exact hcs
     obtain ⟨p1,p2⟩:=f4.get m.toNat cs hcs'
     refine ok_same r hK (v:=.ro cs 0) (gv:=.pointer (some ⟨b,o' + m.toNat * k,none⟩)) ⟨b,o' + m.toNat * k,rfl,p2⟩ hq ?_
     simp only [execOp,ho]
     rw [run_bind_ok (run_indexAt_slice hu hk f2 e5 hb.1 hb.2)]
     rfl
   ·exact h.elim
  ·rename_i k' ver' xs hl
   rw [hl] at e1
   split at h
   ·rename_i hb
    have hb1:=Nat.eq_of_beq_eq_true hb
    subst hb1
    simp only [WT] at h
    have hbv:Nat.beq ver ver' = true:=by
     cases hbv:Nat.beq ver ver' with
     | false=>exact (h.2 hbv).elim
     | true=>rfl
    have h3:=h.1 hbv
    clear h
    have hb2:=Nat.eq_of_beq_eq_true hbv
    subst hb2
    obtain ⟨f0,_,f1⟩:=e1
    obtain ⟨f1,f2⟩:=f1 rfl
    obtain ⟨g1,g2⟩:=h3
    cases hb:(decide (0≤m)&&decide (m<(len:Int))) with
    | false=>exact (g2 hb).elim
    | true=>
     have hq:=g1 hb
     simp at hb
     have hl' : look c.heap id=some (.mt k ver xs):=by rw [r.heap];exact hl
     obtain ⟨b3,b4,bb⟩:=r.hrel.blk id _ hl'
     rcases f2 with ⟨_,f2,_⟩|⟨b,o',f2,f3⟩
     ·omega
     obtain ⟨rfl,rfl⟩:=f3 (by omega)
     refine ok_same r hK (v:=.eptr id ver (off+m.toNat) 0) (gv:=.pointer (some ⟨(c.pl id).gb,off * k+m.toNat * k,none⟩)) ?_ hq ?_
     ·simp only [RelV,hl']
      refine ⟨Nat.le_refl _,⟨_,rfl⟩,fun _=>⟨by omega,?_⟩⟩
      rw [Nat.add_mul];rfl
     ·simp only [execOp,ho]
      rw [run_bind_ok (run_indexAt_slice hu hk f2 e5 hb.1 hb.2)]
      rfl
   ·exact h.elim
  ·exact h.elim
 ·rename_i id len ik m hv1 hv2
  have e1:=opd_rel r hc1 hv1
  have e5:=opd_rel r hc2 hv2
  simp only [RelV,RelI] at e5
  simp only [WT] at h
  obtain ⟨g1,g2⟩:=h
  cases hb:(decide (0≤m)&&decide (m<(len:Int))) with
  | false=>exact (g2 hb).elim
  | true=>
   have hq:=g1 hb
   simp at hb
   obtain ⟨f1,f2,_⟩:=e1
   refine ok_same r hK (v:=.ptr id (m.toNat * k)) (gv:=.pointer (some ⟨(c.pl id).gb,0+m.toNat * k,none⟩)) ⟨f1,by rw [Nat.zero_add]⟩ hq ?_
   simp only [execOp,ho]
   rw [run_bind_ok (run_indexAt_slice hu hk f2 e5 hb.1 hb.2)]
   rfl
 ·exact h.elim
theorem idxs_ok (r:Rel c w0 n gs st a) (hK:NextOK P Q q c w0 n gs st a o.dst K) {t:TypeId} {x i:Operand} {y j:Opd} (ho:o.op = .index t x i) (hu:P.underlying t=some .string)
  (hc1:compOpd x=some y) (hc2:compOpd i=some j) (h:WT P Q (step (.idxs y j) st q xx)):o.wp P a c.w K Qx:=by
 simp only [step] at h
 split at h
 ·rename_i s ik m hv1 hv2
  have e1:=opd_rel r hc1 hv1
  have e5:=opd_rel r hc2 hv2
  simp only [RelV,RelI] at e1 e5
  simp only [WT] at h
  obtain ⟨g1,g2⟩:=h
  cases hb:(decide (0≤m)&&decide (m<(s.length:Int))) with
  | false=>exact (g2 hb).elim
  | true=>
   obtain ⟨ch,hch,hq⟩:=g1 hb
   simp at hb
   refine ok_same r hK (v:=.d (.int .u8 ch.toNat)) (gv:=.int .u8 ch.toNat) (by simp [RelV,RelI]) hq ?_
   simp only [execOp,ho]
   have:(Instr.index t (a.eval x) (a.eval i)).run P c.w = .ok (.int .u8 ch.toNat) c.w:=by
    unfold Instr.index
    rw [e1,e5]
    rw [run_bind_ok (s:=asIntOf _) (x:=(ik,m)) (w':=c.w) rfl]
    simp only []
    rw [run_bind_ok (run_und hu)]
    have hx:(⟨s.toArray⟩:ByteArray)[m.toNat]? = some ch:=by
     have h0:m.toNat<s.length:=by omega
     have:(⟨s.toArray⟩:ByteArray)[m.toNat]? = some ((⟨s.toArray⟩:ByteArray)[m.toNat]'(by simpa [ByteArray.size] using h0)):=by
      rw [getElem?_pos]
     rw [this]
     rw [List.getElem?_eq_getElem h0] at hch
     simpa [ByteArray.getElem_eq_getElem_data] using hch
    simp only [hb.1,if_true,hx]
    rfl
   rw [run_bind_ok this]
   rfl
 ·exact h.elim
theorem run_len {t:TypeId} {ts:Array TypeId} {ty:TypeId} {v:Value} {w:World} (ht:ts[0]? = some t) {m:Nat}
  (h:(∃e x cap,P.underlying t=some (.slice e)∧v = .slice x m cap)∨(∃s,P.underlying t=some .string∧v = .string s∧s.size=m)) :
  (Builtin.len_ ts ty #[v]).run P w = .ok (.int .i64 m) w:=by
 rcases h with ⟨e,x,cap,hu,rfl⟩|⟨s,hu,rfl,rfl⟩
 ·simp [Builtin.len_,ht,run_und hu,goInt]
 ·simp [Builtin.len_,ht,run_und hu,goInt]
end
end Uw
namespace Uw
open Go Go.RowKit
variable [Glob]
section
variable {P : Program} {Q : MExit → St → Prop} {q : V → St → Tree} {c : Cx} {w0 : World} {n : Nat} {gs : Fr} {st : St} {a : Act} {K : Act → World → Prop} {Qx : Exit → Act → World → Prop} {o : Oper} {xx : MExit → St → Tree}
theorem run_call_len {cl:Call} {x:Operand} {t:TypeId} {m:Nat} {w:World} (ho:o.op = .call cl) (hb:cl.callee = .builtin .len) (hx:cl.args.toList=[x]) (ht:cl.argTypes.toList=[t])
  (h:(∃e y cap,P.underlying t=some (.slice e)∧a.eval x = .slice y m cap)∨(∃s,P.underlying t=some .string∧a.eval x = .string s∧s.size=m)) :
  (execOp a.eval o).run P w = .ok (.value (.int .i64 m)) w:=by
 obtain ⟨cal,args,ats⟩:=cl
 simp only at hb hx ht
 subst hb
 have hx' : args = #[x]:=by rw [← hx]
 have ht' : ats = #[t]:=by rw [← ht]
 subst hx' ht'
 simp only [execOp,ho,resolve,invoke,builtin]
 have:=run_len (P:=P) (w:=w) (ty:=o.type) (ts:=#[t]) (v:=a.eval x) rfl h
 simp [this]
theorem len_ok (r:Rel c w0 n gs st a) (hK:NextOK P Q q c w0 n gs st a o.dst K) {cl:Call} {x:Operand} {t:TypeId} {y:Opd} {b:Bool} (ho:o.op = .call cl) (hb:cl.callee = .builtin .len) (hx:cl.args.toList=[x]) (ht:cl.argTypes.toList=[t])
  (hu:if b then P.underlying t=some .string else ∃e,P.underlying t=some (.slice e)) (hc:compOpd x=some y) (h:WT P Q (step (.len b y) st q xx)):o.wp P a c.w K Qx:=by
 cases b with
 | false=>
  simp only [Bool.false_eq_true,if_false] at hu
  obtain ⟨e,hu⟩:=hu
  simp only [step] at h
  split at h
  ·rename_i k xs z hv
   have e0:=opd_rel r hc hv
   simp only [RelV,RelI] at e0
   rcases e0 with ⟨⟨_,e1,_⟩,rfl⟩|⟨b,o',cap,e1,_⟩
   ·exact ok_same r hK (v:=.d (.int .i64 ((0:Nat):Int))) (gv:=.int .i64 ((0:Nat):Int)) (by simp [RelV,RelI]) h (run_call_len (m:=0) ho hb hx ht (.inl ⟨e,_,_,hu,e1⟩))
   ·exact ok_same r hK (v:=.d (.int .i64 xs.length)) (by simp [RelV,RelI]) h (run_call_len ho hb hx ht (.inl ⟨e,_,_,hu,e1⟩))
  ·rename_i hv
   have e1:=opd_rel r hc hv
   simp only [RelV,RelI] at e1
   exact ok_same r hK (v:=.d (.int .i64 0)) (gv:=.int .i64 ((0:Nat):Int)) (by simp [RelV,RelI]) h (run_call_len (m:=0) ho hb hx ht (.inl ⟨e,_,_,hu,e1⟩))
  ·rename_i id ver off len hv
   have e1:=opd_rel r hc hv
   simp only [RelV] at e1
   rw [r.heap] at e1
   split at h
   ·rename_i k xs hl
    rw [hl] at e1
    rcases e1 with ⟨_,⟨e2,rfl,_⟩|⟨b,o',cap,e2,_⟩⟩
    ·exact ok_same r hK (v:=.d (.int .i64 ((0:Nat):Int))) (gv:=.int .i64 ((0:Nat):Int)) (by simp [RelV,RelI]) h (run_call_len (m:=0) ho hb hx ht (.inl ⟨e,_,_,hu,e2⟩))
    exact ok_same r hK (v:=.d (.int .i64 len)) (by simp [RelV,RelI]) h (run_call_len ho hb hx ht (.inl ⟨e,_,_,hu,e2⟩))
   ·rename_i k ver' xs hl
    rw [hl] at e1
    simp only [WT] at h
    cases hbq:Nat.beq ver ver' with
    | false=>exact (h.2 hbq).elim
    | true=>
     have h:=h.1 hbq
     have hbq:=Nat.eq_of_beq_eq_true hbq
     obtain ⟨_,_,e2⟩:=e1
     rcases e2 hbq with ⟨_,⟨e3,rfl,_⟩|⟨b,o',e3,_⟩⟩
     ·exact ok_same r hK (v:=.d (.int .i64 ((0:Nat):Int))) (gv:=.int .i64 ((0:Nat):Int)) (by simp [RelV,RelI]) h (run_call_len (m:=0) ho hb hx ht (.inl ⟨e,_,_,hu,e3⟩))
     ·exact ok_same r hK (v:=.d (.int .i64 len)) (by simp [RelV,RelI]) h (run_call_len ho hb hx ht (.inl ⟨e,_,_,hu,e3⟩))
   ·exact h.elim
  ·rename_i id len hv
   obtain ⟨_,e1,_⟩:=opd_rel r hc hv
   exact ok_same r hK (v:=.d (.int .i64 len)) (by simp [RelV,RelI]) h (run_call_len ho hb hx ht (.inl ⟨e,_,_,hu,e1⟩))
  ·exact h.elim
 | true=>
  simp only [if_true] at hu
  simp only [step] at h
  split at h
  ·rename_i s hv
   have e1:=opd_rel r hc hv
   simp only [RelV,RelI] at e1
   exact ok_same r hK (v:=.d (.int .i64 s.length)) (by simp [RelV,RelI]) h (run_call_len (m:=s.length) ho hb hx ht (.inr ⟨_,hu,e1,by simp [ByteArray.size]⟩))
  ·exact h.elim
theorem run_bin {op:BinOp} {t t' : TypeId} {x y:Operand} {u v:Value} {w:World} (ho:o.op = .binOp op t x y t') (hg:(eqGuard op t x y (a.eval x) (a.eval y)).run P w = .ok () w) (h:(binOp op t (a.eval x) (a.eval y)).run P w = .ok u w) :
  (execOp a.eval o).run P w = .ok (.value u) w:=by
 simp only [execOp,ho]
 simp [hg,h]
theorem guard_int {op:BinOp} {t:TypeId} {x y:Operand} {k k' : IntKind} {i j:Int} {w:World}:(eqGuard op t x y (.int k i) (.int k' j)).run P w = .ok () w:=by
 unfold eqGuard
 cases op<;>simp
theorem guard_str {op:BinOp} {t:TypeId} {x y:Operand} {i j:ByteArray} {w:World}:(eqGuard op t x y (.string i) (.string j)).run P w = .ok () w:=by
 unfold eqGuard
 cases op<;>simp
theorem guard_bool {op:BinOp} {t:TypeId} {x y:Operand} {i j:Bool} {w:World}:(eqGuard op t x y (.bool i) (.bool j)).run P w = .ok () w:=by
 unfold eqGuard
 cases op<;>simp
theorem bytes_eq (s t:List UInt8):((⟨s.toArray⟩:ByteArray).toList == (⟨t.toArray⟩:ByteArray).toList)=decide (s=t):=by
 have:∀l:List UInt8,(⟨l.toArray⟩:ByteArray).toList=l:=by
  intro l;simp
 rw [this,this]
 rw [Bool.eq_iff_iff];simp
theorem binI_ok {op:BinOp} {k:IntKind} {i j:Int} {Q:MExit→St→Prop} {f:Dat→Tree} {t:TypeId} {w:World} (h:WT P Q (binI op k i j f)) :
  ∃d gv,(binOp op t (.int k i) (.int k j)).run P w = .ok gv w∧(∀J,RelI w J d gv)∧WT P Q (f d):=by
 cases op with
 | add=>exact ⟨.int k (k.wrap (i+j)),.int k (k.wrap (i+j)),by simp [binOp,Op.intArith],fun J=>by simp [RelI],WT_fit (q:=fun n=>f (.int k n)) h⟩
 | sub=>exact ⟨.int k (k.wrap (i - j)),.int k (k.wrap (i - j)),by simp [binOp,Op.intArith],fun J=>by simp [RelI],WT_fit (q:=fun n=>f (.int k n)) h⟩
 | mul=>exact ⟨.int k (k.wrap (i * j)),.int k (k.wrap (i * j)),by simp [binOp,Op.intArith],fun J=>by simp [RelI],WT_fit (q:=fun n=>f (.int k n)) h⟩
 | quo=>
  simp only [binI,WT] at h
  by_cases hj:j=0
  ·exact (h.1 (by simp [hj])).elim
  ·exact ⟨.int k (k.wrap (i.tdiv j)),.int k (k.wrap (i.tdiv j)),by simp [binOp,Op.intDiv,hj],fun J=>by simp [RelI],WT_fit (q:=fun n=>f (.int k n)) (h.2 (by simp [hj]))⟩
 | rem=>
  simp only [binI,WT] at h
  by_cases hj:j=0
  ·exact (h.1 (by simp [hj])).elim
  ·exact ⟨.int k (i.tmod j),.int k (i.tmod j),by simp [binOp,Op.intDiv,hj],fun J=>by simp [RelI],h.2 (by simp [hj])⟩
 | eql=>exact ⟨_,.bool (decide (i=j)),by simp [binOp,Op.intCmp];rw [Bool.eq_iff_iff];simp,fun J=>by simp [RelI],h⟩
 | neq=>exact ⟨_,.bool (!decide (i=j)),by simp [binOp,Op.intCmp];rw [Bool.eq_iff_iff];simp,fun J=>by simp [RelI],h⟩
 | lss=>exact ⟨_,_,by simp [binOp,Op.intCmp];rfl,fun J=>by simp [RelI],h⟩
 | leq=>exact ⟨_,_,by simp [binOp,Op.intCmp];rfl,fun J=>by simp [RelI],h⟩
 | gtr=>exact ⟨_,_,by simp [binOp,Op.intCmp];rfl,fun J=>by simp [RelI],h⟩
 | geq=>exact ⟨_,_,by simp [binOp,Op.intCmp];rfl,fun J=>by simp [RelI],h⟩
 | shl=>exact h.elim
 | shr=>exact h.elim
 | and=>exact ⟨.int k (k.wrap (BitVec.ofInt k.bits i&&&BitVec.ofInt k.bits j).toNat),.int k (k.wrap (BitVec.ofInt k.bits i&&&BitVec.ofInt k.bits j).toNat),by simp only [binOp,ne_eq,not_true_eq_false,if_false,Op.intBits];rfl,fun J=>by simp only [RelI],h⟩
 | or=>exact ⟨.int k (k.wrap (BitVec.ofInt k.bits i|||BitVec.ofInt k.bits j).toNat),.int k (k.wrap (BitVec.ofInt k.bits i|||BitVec.ofInt k.bits j).toNat),by simp only [binOp,ne_eq,not_true_eq_false,if_false,Op.intBits];rfl,fun J=>by simp only [RelI],h⟩
 | xor=>exact ⟨.int k (k.wrap (BitVec.ofInt k.bits i ^^^ BitVec.ofInt k.bits j).toNat),.int k (k.wrap (BitVec.ofInt k.bits i ^^^ BitVec.ofInt k.bits j).toNat),by simp only [binOp,ne_eq,not_true_eq_false,if_false,Op.intBits];rfl,fun J=>by simp only [RelI],h⟩
 | andNot=>exact ⟨.int k (k.wrap (BitVec.ofInt k.bits i&&&~~~BitVec.ofInt k.bits j).toNat),.int k (k.wrap (BitVec.ofInt k.bits i&&&~~~BitVec.ofInt k.bits j).toNat),by simp only [binOp,ne_eq,not_true_eq_false,if_false,Op.intBits];rfl,fun J=>by simp only [RelI],h⟩
theorem strI_ok {op:BinOp} {s u:List UInt8} {Q:MExit→St→Prop} {f:Dat→Tree} {t:TypeId} {w:World} (h:WT P Q (strI op s u f)) :
  ∃d gv,(binOp op t (.string ⟨s.toArray⟩) (.string ⟨u.toArray⟩)).run P w = .ok gv w∧(∀J,RelI w J d gv)∧WT P Q (f d):=by
 have hl:∀l:List UInt8,(⟨l.toArray⟩:ByteArray).toList=l:=by intro l;simp
 cases op with
 | add=>
  simp only [strI,WT] at h
  by_cases hb:s.length+u.length<4611686018427387904
  ·refine ⟨.str (s++u),.string ⟨(s++u).toArray⟩,?_,fun J=>by simp [RelI],h.1 (by simp [hb])⟩
   have h1:¬(((⟨s.toArray⟩:ByteArray).size+(⟨u.toArray⟩:ByteArray).size:Nat):Int)>IntKind.i64.max:=by
    simp [ByteArray.size,IntKind.max,IntKind.signed,IntKind.bits];omega
   simp only [binOp,Op.stringOp,h1,if_false]
   have:(⟨s.toArray⟩:ByteArray)++(⟨u.toArray⟩:ByteArray)=⟨(s++u).toArray⟩:=by
    apply ByteArray.ext;simp
   rw [this]
   rfl
  ·exact (h.2 (by simp;omega)).elim
 | eql=>exact ⟨_,.bool (decide (s=u)),by simp only [binOp,Op.stringOp,bytes_eq];rfl,fun J=>by simp [RelI],h⟩
 | neq=>exact ⟨_,.bool (!decide (s=u)),by simp only [binOp,Op.stringOp,bytes_eq];rfl,fun J=>by simp [RelI],h⟩
 | lss=>exact ⟨_,.bool (Op.bytesLess s u),by simp only [binOp,Op.stringOp,hl];rfl,fun J=>by simp [RelI],h⟩
 | leq=>exact ⟨_,.bool (Op.bytesLess s u||decide (s=u)),by simp only [binOp,Op.stringOp,bytes_eq];simp only [hl];rfl,fun J=>by simp [RelI],h⟩
 | gtr=>exact ⟨_,.bool (!(Op.bytesLess s u||decide (s=u))),by simp only [binOp,Op.stringOp,bytes_eq];simp only [hl];rfl,fun J=>by simp [RelI],h⟩
 | geq=>exact ⟨_,.bool (!Op.bytesLess s u),by simp only [binOp,Op.stringOp,hl];rfl,fun J=>by simp [RelI],h⟩
 | _=>exact h.elim
theorem bin_ok (r:Rel c w0 n gs st a) (hK:NextOK P Q q c w0 n gs st a o.dst K) {op:BinOp} {t t' : TypeId} {x1 x2:Operand} {y1 y2:Opd} (ho:o.op = .binOp op t x1 x2 t') (hc1:compOpd x1=some y1) (hc2:compOpd x2=some y2)
  (h:WT P Q (step (.bin op y1 y2) st q xx)):o.wp P a c.w K Qx:=by
 simp only [step] at h
 split at h
 ·rename_i k i k' j hv1 hv2
  have e1:=opd_rel r hc1 hv1
  have e2:=opd_rel r hc2 hv2
  simp only [RelV,RelI] at e1 e2
  split at h
  ·rename_i hk
   have hk:k=k':=of_decide_eq_true hk
   subst hk
   obtain ⟨d,gv,g1,g2,g3⟩:=binI_ok (t:=t) (w:=c.w) h
   refine ok_same r hK (v:=.d d) (g2 _) g3 (run_bin (v:=gv) ho ?_ ?_)
   ·rw [e1,e2];exact guard_int
   ·rw [e1,e2];exact g1
  ·exact h.elim
 ·rename_i s u hv1 hv2
  have e1:=opd_rel r hc1 hv1
  have e2:=opd_rel r hc2 hv2
  simp only [RelV,RelI] at e1 e2
  obtain ⟨d,gv,g1,g2,g3⟩:=strI_ok (t:=t) (w:=c.w) h
  refine ok_same r hK (v:=.d d) (g2 _) g3 (run_bin (v:=gv) ho ?_ ?_)
  ·rw [e1,e2];exact guard_str
  ·rw [e1,e2];exact g1
 ·exact h.elim
theorem run_equal_bool {t:TypeId} {i j:Bool} {w:World} (hu:P.underlying t=some .bool):(Op.equal t (.bool i) (.bool j)).run P w = .ok (i == j) w:=by
 have key:∀d,(Op.equalIn (d+1) t (.bool i) (.bool j)).run P w = .ok (i == j) w:=by
  intro d
  simp [Op.equalIn,run_und hu]
 exact key 9999
theorem eqb_ok (r:Rel c w0 n gs st a) (hK:NextOK P Q q c w0 n gs st a o.dst K) {op:BinOp} {t t' : TypeId} {x1 x2:Operand} {y1 y2:Opd} {neg:Bool} (ho:o.op = .binOp op t x1 x2 t') (hop:op=if neg then .neq else .eql) (hu:P.underlying t=some .bool)
  (hc1:compOpd x1=some y1) (hc2:compOpd x2=some y2) (h:WT P Q (step (.eqb neg y1 y2) st q xx)):o.wp P a c.w K Qx:=by
 simp only [step] at h
 split at h
 ·rename_i i j hv1 hv2
  have e1:=opd_rel r hc1 hv1
  have e2:=opd_rel r hc2 hv2
  simp only [RelV,RelI] at e1 e2
  cases neg with
  | true=>
   simp only [if_true] at hop;subst hop
   refine ok_same r hK (gv:=.bool (i != j)) (by simp [RelV,RelI]) h (run_bin (v:=.bool true) ho ?_ ?_)
   ·rw [e1,e2];exact guard_bool
   ·rw [e1,e2]
    simp only [binOp]
    rw [run_bind_ok (run_equal_bool hu)]
    rfl
  | false=>
   simp only [Bool.false_eq_true,if_false] at hop;subst hop
   refine ok_same r hK (gv:=.bool (i == j)) (by simp [RelV,RelI]) h (run_bin (v:=.bool true) ho ?_ ?_)
   ·rw [e1,e2];exact guard_bool
   ·rw [e1,e2]
    simp only [binOp]
    rw [run_bind_ok (run_equal_bool hu)]
    rfl
 ·exact h.elim
theorem not_ok (r:Rel c w0 n gs st a) (hK:NextOK P Q q c w0 n gs st a o.dst K) {t:TypeId} {x:Operand} {y:Opd} (ho:o.op = .unOp .not t x) (hc:compOpd x=some y) (h:WT P Q (step (.not y) st q xx)):o.wp P a c.w K Qx:=by
 simp only [step] at h
 split at h
 ·rename_i b hv
  have e1:=opd_rel r hc hv
  simp only [RelV,RelI] at e1
  refine ok_same r hK (gv:=.bool (!b)) (by simp [RelV,RelI]) h ?_
  simp [execOp,ho,e1,Op.unary]
 ·exact h.elim
theorem conv_ok (r:Rel c w0 n gs st a) (hK:NextOK P Q q c w0 n gs st a o.dst K) {s d:TypeId} {x:Operand} {y:Opd} {k k' : IntKind} (ho:o.op = .convert s d x) (hs:P.underlying s=some (.int k')) (hd:P.underlying d=some (.int k)) (hc:compOpd x=some y)
  (h:WT P Q (step (.conv k y) st q xx)):o.wp P a c.w K Qx:=by
 simp only [step] at h
 split at h
 ·rename_i k0 i hv
  have e1:=opd_rel r hc hv
  simp only [RelV,RelI] at e1
  refine ok_same r hK (v:=.d (.int k (k.wrap i))) (gv:=.int k (k.wrap i)) (by simp [RelV,RelI]) (WT_fit (q:=fun m=>q (.d (.int k m)) st) h) ?_
  simp [execOp,ho,e1,convert,run_und hs,run_und hd,Conv.intToInt]
 ·exact h.elim
theorem ext_ok (r:Rel c w0 n gs st a) (hK:NextOK P Q q c w0 n gs st a o.dst K) {x:Operand} {y:Opd} {i:Nat} (ho:o.op = .extract x i) (hc:compOpd x=some y) (h:WT P Q (step (.ext y i) st q xx)):o.wp P a c.w K Qx:=by
 simp only [step] at h
 split at h
 ·rename_i vs hv
  obtain ⟨us,e1,e2⟩:=opd_rel r hc hv
  split at h
  ·rename_i v hi
   obtain ⟨u,g1,g2⟩:=e2.get i v hi
   refine ok_same r hK g2 h ?_
   simp [execOp,ho,e1,Instr.extract,g1]
  ·exact h.elim
 ·exact h.elim
end
end Uw
namespace Uw
open Go Go.RowKit
variable [Glob]
theorem RelL.append {w:World} {J:Nat→Nat→Prop}:∀{xs ys:List Dat} {vs us:List Value},RelL w J xs vs→RelL w J ys us→RelL w J (xs++ys) (vs++us)
 | [],ys,vs,us,h1,h2=>by simp [RelL] at h1;subst h1;simpa using h2
 | x::xs,ys,vs,us,h1,h2=>by
  obtain ⟨v,vs',rfl,g1,g2⟩:=h1
  exact ⟨v,vs'++us,rfl,g1,RelL.append g2 h2⟩
theorem RelC.flat {w:World} {J:Nat→Nat→Prop} {b:Nat}:∀{ds:List Dat} {o:Nat},RelC w J b o ds→∃us:List Value,RelL w J ds us∧(∀j v,us[j]? = some v→w.cell? ⟨b,o+j,none⟩=some v)∧∀v∈us,one v=true
 | [],o,_=>⟨[],rfl,by simp,by simp⟩
 | x::xs,o,h=>by
  obtain ⟨⟨v,h1,h2,h5,h3⟩,h4⟩:=h
  obtain ⟨us,g1,g2,g3⟩:=RelC.flat h4
  refine ⟨v::us,⟨v,us,rfl,h3,g1⟩,?_,?_⟩
  ·intro j u hu
   cases j with
   | zero=>simp at hu;subst hu;exact h1
   | succ j=>
    simp at hu
    have:=g2 j u hu
    rwa [show o+1+j=o+(j+1) by omega] at this
  ·intro u hu
   simp at hu
   rcases hu with rfl|hu
   ·exact h5
   ·exact g3 u hu
theorem RelE.flat {w:World} {J:Nat→Nat→Prop} {b k:Nat}:∀{xs:List (List Dat)} {o:Nat},RelE w J b k o xs→(∀x∈xs,x.length=k)∧∃us:List Value,RelL w J xs.flatten us∧us.length=xs.length * k∧(∀j v,us[j]? = some v→w.cell? ⟨b,o+j,none⟩=some v)∧∀v∈us,one v=true
 | [],o,_=>⟨by simp,[],by simp [RelL],by simp,by simp,by simp⟩
 | x::xs,o,h=>by
  obtain ⟨h1,h2,h3⟩:=h
  obtain ⟨us,g1,g2,g3⟩:=RelC.flat h2
  obtain ⟨p1,vs,p2,p3,p4,p5⟩:=RelE.flat h3
  have hl:=g1.length
  refine ⟨by intro y hy;simp at hy;rcases hy with rfl|hy;exact h1;exact p1 y hy,us++vs,?_,?_,?_,?_⟩
  ·rw [List.flatten_cons];exact g1.append p2
  ·simp [p3,hl,h1,Nat.add_mul];omega
  ·intro j v hv
   by_cases hj:j<us.length
   ·rw [List.getElem?_append_left hj] at hv;exact g2 j v hv
   ·rw [List.getElem?_append_right (by omega)] at hv
    have:=p4 (j - us.length) v hv
    rwa [show o+k+(j - us.length)=o+j by omega] at this
  ·intro v hv
   simp at hv
   rcases hv with hv|hv
   ·exact g3 v hv
   ·exact p5 v hv
theorem RelC.of_flat {w:World} {J:Nat→Nat→Prop} {b:Nat}:∀{ds:List Dat} {us:List Value} {o:Nat},RelL w J ds us→(∀j v,us[j]? = some v→w.cell? ⟨b,o+j,none⟩=some v∧J b (o+j)∧one v=true)→RelC w J b o ds
 | [],us,o,_,_=>trivial
 | d::ds,us,o,h,hc=>by
  obtain ⟨v,us',rfl,g1,g2⟩:=h
  have h0:=hc 0 v rfl
  refine ⟨⟨v,h0.1,h0.2.1,h0.2.2,g1⟩,RelC.of_flat g2 ?_⟩
  intro j u hu
  have:=hc (j+1) u (by simpa using hu)
  rwa [show o+(j+1)=o+1+j by omega] at this
theorem RelL.split {w:World} {J:Nat→Nat→Prop}:∀{xs ys:List Dat} {us:List Value},RelL w J (xs++ys) us→RelL w J xs (us.take xs.length)∧RelL w J ys (us.drop xs.length)
 | [],ys,us,h=>by simpa [RelL] using h
 | x::xs,ys,us,h=>by
  obtain ⟨v,us',rfl,g1,g2⟩:=h
  obtain ⟨p1,p2⟩:=RelL.split g2
  exact ⟨⟨v,_,rfl,g1,p1⟩,p2⟩
theorem RelE.of_flat {w:World} {J:Nat→Nat→Prop} {b k:Nat}:∀{xs:List (List Dat)} {us:List Value} {o:Nat},(∀x∈xs,x.length=k)→RelL w J xs.flatten us→(∀j v,us[j]? = some v→w.cell? ⟨b,o+j,none⟩=some v∧J b (o+j)∧one v=true)→RelE w J b k o xs
 | [],us,o,_,_,_=>trivial
 | x::xs,us,o,hk,h,hc=>by
  rw [List.flatten_cons] at h
  have hx:=hk x (by simp)
  obtain ⟨h1,h2⟩:=RelL.split h
  refine ⟨hx,RelC.of_flat h1 ?_,RelE.of_flat (fun y hy=>hk y (by simp [hy])) h2 ?_⟩
  ·intro j v hv
   rw [List.getElem?_take] at hv
   split at hv
   ·exact hc j v hv
   ·simp at hv
  ·intro j v hv
   rw [List.getElem?_drop] at hv
   have:=hc (x.length+j) v hv
   rwa [show o+(x.length+j)=o+k+j by omega] at this
theorem flatten_drop {α:Type} {k:Nat}:∀{xs:List (List α)} (h:∀x∈xs,x.length=k) (m:Nat),m≤xs.length→(xs.drop m).flatten=xs.flatten.drop (m * k)
 | xs,h,0,_=>by simp
 | [],h,m+1,hm=>by simp
 | x::xs,h,m+1,hm=>by
  have hx:=h x (by simp)
  rw [List.drop_succ_cons,flatten_drop (fun y hy=>h y (by simp [hy])) m (by simpa using hm),List.flatten_cons,show (m+1) * k=x.length+m * k by rw [Nat.add_mul,hx];omega,List.drop_length_add_append]
theorem flatten_take {α:Type} {k:Nat}:∀{xs:List (List α)} (h:∀x∈xs,x.length=k) (m:Nat),m≤xs.length→(xs.take m).flatten=xs.flatten.take (m * k)
 | xs,h,0,_=>by simp
 | [],h,m+1,hm=>by simp
 | x::xs,h,m+1,hm=>by
  have hx:=h x (by simp)
  rw [List.take_succ_cons,List.flatten_cons,flatten_take (fun y hy=>h y (by simp [hy])) m (by simpa using hm),List.flatten_cons,show (m+1) * k=x.length+m * k by rw [Nat.add_mul,hx];omega,List.take_length_add_append]
theorem flatten_window {α:Type} {k:Nat} {xs:List (List α)} (h:∀x∈xs,x.length=k) (off len:Nat) (hle:off+len≤xs.length):((xs.drop off).take len).flatten=(xs.flatten.drop (off * k)).take (len * k):=by
 rw [flatten_take (fun x hx=>h x (List.mem_of_mem_drop hx)) len (by simp;omega),flatten_drop h off (by omega)]
section
variable {P : Program} {Q : MExit → St → Prop} {q : V → St → Tree} {c : Cx} {w0 : World} {n : Nat} {gs : Fr} {st : St} {a : Act} {K : Act → World → Prop} {Qx : Exit → Act → World → Prop} {o : Oper} {xx : MExit → St → Tree}
def SrcOK (c:Cx) (k:Nat) (gv:Value) (ys:List (List Dat)):Prop:=
 ((∃x:Option Addr,gv = .slice x 0 0)∧ys=[])∨∃b o cp us,gv = .slice (some ⟨b,o,none⟩) ys.length cp∧ys.length≤cp∧(∀x∈ys,x.length=k)∧RelL c.w (Imm c) ys.flatten us∧us.length=ys.length * k∧
  (∀j v,us[j]? = some v→c.w.cell? ⟨b,o+j,none⟩=some v)∧∀v∈us,one v=true
theorem src_ok (r:Rel c w0 n gs st a) {k:Nat} {y:V} {gv:Value} {ys:List (List Dat)} {vb:Option Bool} (hy:RelV c y gv) (h:srcE st.heap k y=some (vb,ys)) (hvb:vb≠some false):SrcOK c k gv ys:=by
 unfold srcE at h
 split at h
 ·simp at h;obtain ⟨_,rfl⟩:=h
  exact .inl ⟨⟨_,hy⟩,rfl⟩
 ·rename_i k' xs z
  split at h
  ·rename_i hb
   have hb:=Nat.eq_of_beq_eq_true hb
   simp at h
   obtain ⟨_,rfl⟩:=h
   subst hb
   simp only [RelV,RelI] at hy
   rcases hy with hy|⟨b,o',cap,e1,e2,e3,e4⟩
   ·obtain ⟨⟨x,hx,_⟩,h0⟩:=hy;exact .inl ⟨⟨x,hx⟩,h0⟩
   obtain ⟨g1,us,g2,g3,g4,g5⟩:=RelE.flat e4
   exact .inr ⟨b,o',cap,us,e1,e2,g1,g2,g3,g4,g5⟩
  ·simp at h
 ·rename_i id ver off len
  simp only [RelV] at hy
  rw [r.heap] at hy
  split at h
  ·rename_i k' xs hl
   rw [hl] at hy
   split at h
   ·rename_i hb
    have hb:=Nat.eq_of_beq_eq_true hb
    simp at h
    obtain ⟨_,rfl⟩:=h
    subst hb
    obtain ⟨f1,hy⟩:=hy
    have hlen:((xs.drop off).take len).length=len:=by simp;omega
    rcases hy with ⟨f2,f3,_⟩|⟨b,o',cap,f2,f3,f4,f5⟩
    ·exact .inl ⟨⟨_,f2⟩,List.eq_nil_of_length_eq_zero (by omega)⟩
    obtain ⟨g1,us,g2,g3,g4,g5⟩:=RelE.flat f4
    exact .inr ⟨b,o',cap,us,by rw [hlen];exact f2,by rw [hlen];exact f3,g1,g2,g3,g4,g5⟩
   ·simp at h
  ·rename_i k' ver' xs hl
   rw [hl] at hy
   split at h
   ·rename_i hb
    have hb1:=Nat.eq_of_beq_eq_true hb
    simp only [Option.some.injEq,Prod.mk.injEq] at h
    obtain ⟨h0,rfl⟩:=h
    have hbv:Nat.beq ver ver' = true:=by
     cases hbv:Nat.beq ver ver' with
     | false=>rw [hbv] at h0;exact (hvb h0.symm).elim
     | true=>rfl
    have hb2:=Nat.eq_of_beq_eq_true hbv
    subst hb1 hb2
    obtain ⟨_,_,f⟩:=hy
    obtain ⟨f1,f2⟩:=f rfl
    have hl' : look c.heap id=some (.mt k ver xs):=by rw [r.heap];exact hl
    obtain ⟨b3,b4,bb⟩:=r.hrel.blk id _ hl'
    have hlen:((xs.drop off).take len).length=len:=by simp;omega
    rcases f2 with ⟨f2,f3,_⟩|⟨b,o',f2,f3⟩
    ·exact .inl ⟨⟨_,f2⟩,List.eq_nil_of_length_eq_zero (by omega)⟩
    by_cases hl0:len=0
    ·subst hl0
     refine .inr ⟨b,o',(c.pl id).cap - off,[],by simpa using f2,by simp,by simp,by simp [RelL],by simp,by simp,by simp⟩
    obtain ⟨vs,e,b1,b2,b5,b6⟩:=bb (by omega)
    have hfl:((xs.drop off).take len).flatten=(xs.flatten.drop (off * k)).take (len * k):=flatten_window b4 off len (by omega)
    refine .inr ⟨b,o',(c.pl id).cap - off,((vs.toList.take (xs.length * k)).drop (off * k)).take (len * k),by rw [hlen];exact f2,by rw [hlen];omega,?_,?_,?_,?_,?_⟩
    ·intro x hx
     exact b4 x (List.mem_of_mem_drop (List.mem_of_mem_take hx))
    ·rw [hfl];exact (b5.drop _).take _
    ·have h1:(off+len) * k≤xs.length * k:=Nat.mul_le_mul_right _ f1
     have h2:xs.length * k≤vs.size:=by rw [b2];exact Nat.mul_le_mul_right _ b3
     rw [Nat.add_mul] at h1
     rw [hlen]
     simp;omega
    ·intro j v hv
     rw [List.getElem?_take] at hv
     split at hv
     ·rename_i hj
      rw [List.getElem?_drop,List.getElem?_take] at hv
      split at hv
      ·have hlpos:0<len:=by
        rcases Nat.eq_zero_or_pos len with h0|h0
        ·subst h0;simp at hj
        ·exact h0
       obtain ⟨rfl,rfl⟩:=f3 (by omega)
       rw [cell_in_block b1]
       simpa using hv
      ·simp at hv
     ·simp at hv
    ·intro v hv
     exact b6 v (List.mem_of_mem_drop (List.mem_of_mem_take hv))
   ·simp at h
  ·simp at h
 ·simp at h
end
end Uw
namespace Uw
open Go Go.RowKit
variable [Glob]
section
variable {P : Program} {Q : MExit → St → Prop} {q : V → St → Tree} {c : Cx} {w0 : World} {n : Nat} {gs : Fr} {st : St} {a : Act} {K : Act → World → Prop} {Qx : Exit → Act → World → Prop} {o : Oper} {xx : MExit → St → Tree}
theorem push_row (r:Rel c w0 n gs st a) (m:Bool) {k cap:Nat} {xs:List (List Dat)} {us:List Value} {vs:Array Value} {e:TypeId} (h1:∀x∈xs,x.length=k) (h2:RelL c.w (Imm c) xs.flatten us) (h3:∀v∈us,one v=true)
  (h4:vs.size=cap * k) (h5:xs.length≤cap) (h6:vs.toList.take (xs.length * k)=us) :
  Rel (c.push st.next cap (rowBlk m k xs) (.cells vs e)) w0 n gs (newBlk st (rowBlk m k xs)) a∧RelV (c.push st.next cap (rowBlk m k xs) (.cells vs e)) (.ref st.next 0 0 xs.length) (.slice (some ⟨c.w.heap.size,0,none⟩) xs.length cap):=by
 have hev:Evo c (c.push st.next cap (rowBlk m k xs) (.cells vs e)):=Evo.push r.hrel
 have hpl:(c.push st.next cap (rowBlk m k xs) (.cells vs e)).pl st.next=⟨c.w.heap.size,cap⟩:=by simp [Cx.push]
 have hlook:look (c.push st.next cap (rowBlk m k xs) (.cells vs e)).heap st.next=some (rowBlk m k xs):=by simp [Cx.push,look_cons]
 have hblk:(c.push st.next cap (rowBlk m k xs) (.cells vs e)).w.heap[c.w.heap.size]? = some (.cells vs e (0,0)):=by
  show (c.w.heap.push (.cells vs e))[c.w.heap.size]? = _
  simp
 have h2':=RelL.keep hev.keeps _ _ h2
 have hul:us.length=xs.length * k:=by
  rw [h2.length,flatten_len h1]
 cases m with
 | true=>
  have hb:BlkRel (c.push st.next cap (rowBlk true k xs) (.cells vs e)) st.next (rowBlk true k xs):=by
   refine ⟨by rw [hpl];exact h5,h1,fun _=>⟨vs,e,by rw [hpl];exact hblk,by rw [hpl];exact h4,by rw [h6];exact h2',by rw [h6];exact h3⟩⟩
  refine ⟨r.push hb,?_⟩
  have hpl' : (c.push st.next cap (.mt k 0 xs) (.cells vs e)).pl st.next=⟨c.w.heap.size,cap⟩:=hpl
  simp only [RelV]
  rw [hlook]
  simp only [rowBlk]
  refine ⟨Nat.le_refl _,⟨_,_,_,rfl⟩,fun _=>⟨by simp,.inr ⟨c.w.heap.size,0,?_,fun _=>?_⟩⟩⟩
  ·rw [hpl'];rfl
  ·rw [hpl'];simp
 | false=>
  have hE:RelE (c.push st.next cap (rowBlk false k xs) (.cells vs e)).w (Imm (c.push st.next cap (rowBlk false k xs) (.cells vs e))) c.w.heap.size k 0 xs:=by
   refine RelE.of_flat h1 h2' ?_
   intro j v hv
   have hj:j<us.length:=by
    by_cases hh:j<us.length
    ·exact hh
    ·rw [List.getElem?_eq_none (by omega)] at hv;cases hv
   refine ⟨?_,?_,h3 v (List.mem_of_getElem? hv)⟩
   ·rw [cell_in_block hblk]
    rw [← h6,List.getElem?_take,if_pos (by omega)] at hv
    simpa using hv
   ·refine .inr ⟨r.hrel.old_ge (Nat.le_refl _),?_,?_⟩
    ·show c.w.heap.size<(c.w.heap.push (.cells vs e)).size
     simp
    ·intro id blk hl hph hg
     by_cases hid:st.next=id
     ·subst hid
      rw [hlook] at hl;injection hl with hl;subst hl
      exact ⟨k,xs,rfl,by omega⟩
     ·exfalso
      simp only [Cx.push,look_cons,if_neg hid] at hl
      simp [Cx.push,show id≠st.next from fun h=>hid h.symm] at hg hph
      have:=r.hrel.gb_lt hl hph
      omega
  have hb:BlkRel (c.push st.next cap (rowBlk false k xs) (.cells vs e)) st.next (rowBlk false k xs):=by
   refine ⟨by rw [hpl];exact h5,fun _=>⟨vs,e,by rw [hpl];exact hblk,by rw [hpl];exact h4,by rw [hpl];exact hE⟩⟩
  refine ⟨r.push hb,?_⟩
  have hpl' : (c.push st.next cap (.arr k xs) (.cells vs e)).pl st.next=⟨c.w.heap.size,cap⟩:=hpl
  simp only [RelV]
  rw [hlook]
  simp only [rowBlk]
  refine ⟨by simp,.inr ⟨c.w.heap.size,0,cap,rfl,h5,?_,fun _=>?_⟩⟩
  ·have hE' : RelE (c.push st.next cap (.arr k xs) (.cells vs e)).w (Imm (c.push st.next cap (.arr k xs) (.cells vs e))) c.w.heap.size k 0 xs:=hE
   simpa using hE'
  ·rw [hpl'];simp
theorem zero_row (r:Rel c w0 n gs st a) (m:Bool) (k:Nat) {x:Option Addr} (hx:x=none∨∃b o,x=some ⟨b,o,none⟩) :
  Rel (c.zero st.next (rowBlk m k [])) w0 n gs (newBlk st (rowBlk m k [])) a∧RelV (c.zero st.next (rowBlk m k [])) (.ref st.next 0 0 0) (.slice x 0 0):=by
 have hlook:look (c.zero st.next (rowBlk m k [])).heap st.next=some (rowBlk m k []):=by simp [Cx.zero,look_cons]
 have hpl:(c.zero st.next (rowBlk m k [])).pl st.next=⟨0,0⟩:=by simp [Cx.zero]
 have hph:¬Ph ⟨0,0⟩ (rowBlk m k []):=by cases m<;>simp [rowBlk,Ph]
 refine ⟨r.zero hph ?_,?_⟩
 ·cases m with
  | true=>exact ⟨by simp,by simp,fun h=>by rw [hpl] at h;simp at h⟩
  | false=>exact ⟨by simp,fun h=>by rw [hpl] at h;simp at h⟩
 ·simp only [RelV]
  rw [hlook]
  cases m with
  | true=>
   refine ⟨Nat.le_refl _,⟨_,_,_,rfl⟩,fun _=>⟨by simp,?_⟩⟩
   rcases hx with rfl|⟨b,o,rfl⟩
   ·exact .inl ⟨rfl,rfl,rfl,by rw [hpl]⟩
   ·exact .inr ⟨b,o,by rw [hpl];rfl,fun h=>by rw [hpl] at h;simp at h⟩
  | false=>
   refine ⟨by simp,?_⟩
   rcases hx with rfl|⟨b,o,rfl⟩
   ·exact .inl ⟨rfl,rfl,fun _=>by rw [hpl]⟩
   ·exact .inr ⟨b,o,0,rfl,by simp,by simp [RelE],fun _=>by rw [hpl];simp⟩
theorem run_app_zero {t ty e:TypeId} {i:TypeInfo} {w:World} {base xb:Option Addr} {sLen sCap xc:Nat} (ht:P.underlying t=some (.slice e)) (hi:P.info? e=some i) (hle:sLen≤sCap) :
  (Builtin.append_ #[t,t] ty #[.slice base sLen sCap,.slice xb 0 xc]).run P w = .ok (.slice base sLen sCap) w:=by
 cases base<;>cases xb<;>simp [Builtin.append_,run_und ht,Go.sizeOf,typeInfo,hi,Builtin.lenOf,Builtin.firstCells,loadCells,loadCellsFrom,storeCells,hle]
theorem run_app_room {t ty e:TypeId} {i:TypeInfo} {w:World} {g off sLen sCap m cp b o' k:Nat} {cur:Array Value} {e' : TypeId} {news:List Value} (ht:P.underlying t=some (.slice e)) (hi:P.info? e=some i) (hk:i.size=k)
  (hg:w.heap[g]? = some (.cells cur e' (0,0))) (hl:news.length=m * k) (hnews:∀j u,news[j]? = some u→w.cell? ⟨b,o' + j,none⟩=some u) (h1:∀u∈news,one u=true)
  (hroom:sLen+m≤sCap) (hfit:off+sLen * k+news.length≤cur.size) :
  ∃w',(Builtin.append_ #[t,t] ty #[.slice (some ⟨g,off,none⟩) sLen sCap,.slice (some ⟨b,o',none⟩) m cp]).run P w = .ok (.slice (some ⟨g,off,none⟩) (sLen+m) sCap) w'∧Laid w w' g (layAt cur (off+sLen * k) news) e':=by
 obtain ⟨w',hw',L⟩:=run_storeCells (P:=P) g (off+sLen * k) news 0 cur w hg (by omega) h1
 refine ⟨w',?_,L⟩
 have hf:(Builtin.firstCells k m (.slice (some ⟨b,o',none⟩) m cp)).run P w = .ok news.toArray w:=by
  simp only [Builtin.firstCells]
  exact run_loadCells hl hnews
 subst hk
 simp [Builtin.append_,run_und ht,Go.sizeOf,typeInfo,hi,Builtin.lenOf,hroom,hf,addr_add,hw']
theorem run_call_append {cl:Call} {x y:Operand} {t:TypeId} {w w' : World} {v:Value} (ho:o.op = .call cl) (hb:cl.callee = .builtin .append) (hx:cl.args.toList=[x,y]) (ht:cl.argTypes.toList=[t,t])
  (h:(Builtin.append_ #[t,t] o.type #[a.eval x,a.eval y]).run P w = .ok v w'):(execOp a.eval o).run P w = .ok (.value v) w':=by
 obtain ⟨cal,args,ats⟩:=cl
 simp only at hb hx ht
 subst hb
 have hx' : args = #[x,y]:=by rw [← hx]
 have ht' : ats = #[t,t]:=by rw [← ht]
 subst hx' ht'
 simp only [execOp,ho,resolve,invoke,builtin]
 simp [h]
theorem drew_rel (r:Rel c w0 n gs st a):Rel { c with w:=c.w.drew } w0 n gs st a:=
 r.grow ⟨rfl,rfl,rfl,Nat.le_refl _,fun _ _=>rfl⟩
theorem imm_drew (c:Cx):Keeps c.w c.w.drew (Imm c) (Imm { c with w:=c.w.drew }):=by
 intro b o' h
 exact ⟨h,rfl⟩
structure ElemT (P:Program) (t e:TypeId) (k bytes:Nat):Prop where
 und:P.underlying t=some (.slice e)
 info:∃i z zs,P.info? e=some i∧i.size=k∧i.bytes=bytes∧i.zero=some z∧datsOf z.cells.toList=some zs∧z.cells.size=k
 pos:0<bytes
theorem grown_row (r:Rel c w0 n gs st a) (m:Bool) {k need cap:Nat} {e:TypeId} {z:Value} {xs:List (List Dat)} {us:List Value} (h1:∀x∈xs,x.length=k) (h2:RelL c.w (Imm c) xs.flatten us) (h3:∀v∈us,one v=true) (hz:z.cells.size=k) (hn:xs.length=need) (hc:need≤cap) :
  ∃c' : Cx,c'.B=c.B∧c'.J0=c.J0∧c'.w=c.w.drew.alloc (.cells (us.toArray++Builtin.zeroCells z.cells (cap - need)) e)∧Rel c' w0 n gs (newBlk st (rowBlk m k xs)) a∧
  RelV c' (.ref st.next 0 0 xs.length) (.slice (some ⟨c.w.heap.size,0,none⟩) xs.length cap):=by
 have hul:us.length=xs.length * k:=by rw [h2.length,flatten_len h1]
 refine ⟨Cx.push { c with w:=c.w.drew } st.next cap (rowBlk m k xs) (.cells (us.toArray++Builtin.zeroCells z.cells (cap - need)) e),rfl,rfl,rfl,?_⟩
 refine push_row (drew_rel r) m h1 (RelL.keep (imm_drew c) _ _ h2) h3 ?_ (by omega) ?_
 ·have hz' : (Builtin.zeroCells z.cells (cap - need)).size=(cap - need) * k:=by simp [Builtin.zeroCells,hz]
  rw [Array.size_append,hz',List.size_toArray,hul,hn,← Nat.add_mul]
  congr 1;omega
 ·rw [Array.toList_append,← hul];simp
end
end Uw
namespace Uw
open Go Go.RowKit
variable [Glob]
section
variable {P : Program} {Q : MExit → St → Prop} {q : V → St → Tree} {c : Cx} {w0 : World} {n : Nat} {gs : Fr} {st : St} {a : Act} {K : Act → World → Prop} {Qx : Exit → Act → World → Prop} {o : Oper} {xx : MExit → St → Tree}
theorem Rel.setBlk (r:Rel c w0 n gs st a) {id:Nat} {b b' : Blk} {p' : Pl} (hl:look c.heap id=some b) {w' : World}
  (hother:∀k,k<c.w.heap.size→(Ph (c.pl id) b→k≠(c.pl id).gb)→w'.heap[k]? = c.w.heap[k]?) (hsz:c.w.heap.size≤w'.heap.size) (hbel:Below c.B c.w w')
  (hp:(p'.gb=(c.pl id).gb∧(Ph p' b'→Ph (c.pl id) b))∨c.w.heap.size≤p'.gb)
  (himm:Ph (c.pl id) b→∀o,Imm c (c.pl id).gb o→w'.cell? ⟨(c.pl id).gb,o,none⟩=c.w.cell? ⟨(c.pl id).gb,o,none⟩∧(p'.gb=(c.pl id).gb→∃k xs,b' = .arr k xs∧o<xs.length * k))
  (hbe:BlkEvo (c.pl id) p' b b') (hb:Evo c (c.setBlk id b' p' w')→BlkRel (c.setBlk id b' p' w') id b'):Rel (c.setBlk id b' p' w') w0 n gs { st with heap:=(id,b')::st.heap } a:=by
 have he:=Evo.setBlk r.hrel hl hother hsz hp himm hbe
 exact r.evo he (by simp [Cx.setBlk,r.heap]) (r.hrel.setBlk hl he hother hbel hp (hb he)) rfl rfl rfl (Nat.le_refl _)
theorem run_app_row {t e ty:TypeId} {k bytes g cap len m cp b o' : Nat} {w:World} {vs:Array Value} {e' : TypeId} {us:List Value} (he:ElemT P t e k bytes) (hg:w.heap[g]? = some (.cells vs e' (0,0))) (hs:vs.size=cap * k) (hlen:len≤cap)
  (hone:∀v∈vs.toList.take (len * k),one v=true)
  (hl:us.length=m * k) (hn:∀j v,us[j]? = some v→w.cell? ⟨b,o' + j,none⟩=some v) (h1:∀v∈us,one v=true) (hby:(len+m) * bytes≤70368744177664) :
  (∃w',(Builtin.append_ #[t,t] ty #[.slice (some ⟨g,0,none⟩) len cap,.slice (some ⟨b,o',none⟩) m cp]).run P w = .ok (.slice (some ⟨g,0,none⟩) (len+m) cap) w'∧len+m≤cap∧Laid w w' g (layAt vs (len * k) us) e')∨
  (∃w' cap' vs',(Builtin.append_ #[t,t] ty #[.slice (some ⟨g,0,none⟩) len cap,.slice (some ⟨b,o',none⟩) m cp]).run P w = .ok (.slice (some ⟨w.heap.size,0,none⟩) (len+m) cap') w'∧len+m≤cap'∧w' = w.drew.alloc (.cells vs' e)∧vs'.size=cap' * k∧
   vs'.toList.take ((len+m) * k)=vs.toList.take (len * k)++us):=by
 obtain ⟨i,z,zs,hi,hsz,hbyt,hzero,hzs,hzk⟩:=he.info
 have hund:=he.und
 have hpos:=he.pos
 have hle:len+m≤70368744177664:=Nat.le_trans (Nat.le_mul_of_pos_right _ hpos) hby
 have hlk:len * k≤vs.size:=by rw [hs];exact Nat.mul_le_mul_right _ hlen
 by_cases hroom:len+m≤cap
 ·left
  have hfit:0+len * k+us.length≤vs.size:=by
   rw [hl,hs,Nat.zero_add,← Nat.add_mul];exact Nat.mul_le_mul_right _ hroom
  obtain ⟨w',hw',L⟩:=run_app_room (P:=P) (ty:=ty) (cp:=cp) (off:=0) hund hi hsz hg hl hn h1 hroom hfit
  exact ⟨w',hw',hroom,by simpa using L⟩
 ·right
  have hold:(vs.toList.take (len * k)).length=len * k:=by simp;omega
  have hgr:=run_append_grow w t ty e i z hund hi hzero ⟨g,0,none⟩ len cap (vs.toList.take (len * k)) (by rw [hsz];exact hold) (fun j v hv=>by
    rw [addr_add,cell_in_block hg]
    rw [List.getElem?_take] at hv
    split at hv
    ·simpa using hv
    ·simp at hv) ⟨b,o',none⟩ m cp us (by rw [hsz];exact hl) (fun j v hv=>by rw [addr_add];exact hn j v hv) (by omega) (by omega) (growslice_fits (by omega) (by rw [hbyt];omega))
  have hge:=grownCap_ge w (len+m) cap e
  refine ⟨_,grownCap w (len+m) cap e,_,hgr,hge,rfl,?_,?_⟩
  ·have hz' : (Builtin.zeroCells z.cells (grownCap w (len+m) cap e - (len+m))).size=(grownCap w (len+m) cap e - (len+m)) * k:=by simp [Builtin.zeroCells,hzk]
   rw [Array.size_append,Array.size_append,hz',List.size_toArray,List.size_toArray,hold,hl,← Nat.add_mul,← Nat.add_mul]
   congr 1;omega
  ·have h3:(vs.toList.take (len * k)++us).length=(len+m) * k:=by rw [List.length_append,hold,hl,Nat.add_mul]
   simp only [Array.toList_append,List.append_assoc]
   rw [← List.append_assoc,← h3]
   exact List.take_left
theorem run_app_none {t e ty:TypeId} {k bytes m cp b o' b1 o1:Nat} {w:World} {us:List Value} (he:ElemT P t e k bytes)
  (hl:us.length=m * k) (hn:∀j v,us[j]? = some v→w.cell? ⟨b,o' + j,none⟩=some v) (hm:0<m) (hby:m * bytes≤70368744177664) :
  ∃w' cap' vs',(Builtin.append_ #[t,t] ty #[.slice (some ⟨b1,o1,none⟩) 0 0,.slice (some ⟨b,o',none⟩) m cp]).run P w = .ok (.slice (some ⟨w.heap.size,0,none⟩) m cap') w'∧m≤cap'∧w' = w.drew.alloc (.cells vs' e)∧vs'.size=cap' * k∧
   vs'.toList.take (m * k)=us:=by
 obtain ⟨i,z,zs,hi,hsz,hbyt,hzero,hzs,hzk⟩:=he.info
 have hund:=he.und
 have hpos:=he.pos
 have hle:m≤70368744177664:=Nat.le_trans (Nat.le_mul_of_pos_right _ hpos) hby
 have hgr:=run_append_grow w t ty e i z hund hi hzero ⟨b1,o1,none⟩ 0 0 [] (by simp) (by simp) ⟨b,o',none⟩ m cp us (by rw [hsz];exact hl) (fun j v hv=>by rw [addr_add];exact hn j v hv) (by omega) (by omega) (growslice_fits (by omega) (by rw [hbyt,Nat.zero_add];omega))
 simp only [Nat.zero_add] at hgr
 have hge:=grownCap_ge w m 0 e
 refine ⟨_,grownCap w m 0 e,_,hgr,hge,rfl,?_,?_⟩
 ·have hz' : (Builtin.zeroCells z.cells (grownCap w m 0 e - m)).size=(grownCap w m 0 e - m) * k:=by simp [Builtin.zeroCells,hzk]
  rw [Array.size_append,Array.size_append,hz',List.size_toArray,List.size_toArray,hl,List.length_nil,Nat.zero_add,← Nat.add_mul]
  congr 1;omega
 ·simp only [Array.toList_append,List.append_assoc,List.nil_append]
  rw [← hl]
  exact List.take_left
theorem layAt_take {vs:Array Value} {us:List Value} {p m:Nat} (h:p+us.length=m) (hm:m≤vs.size):(layAt vs p us).toList.take m=vs.toList.take p++us:=by
 rw [layAt_list]
 apply List.ext_getElem?
 intro j
 rw [List.getElem?_take,setAt_get]
 simp only [Array.length_toList]
 by_cases hj:j<p
 ·rw [List.getElem?_append_left (by simp;omega),List.getElem?_take,if_pos hj,if_pos (by omega),if_neg (by omega)]
 ·rw [List.getElem?_append_right (by simp;omega)]
  simp only [List.length_take,Array.length_toList]
  by_cases hjm:j<m
  ·rw [if_pos hjm,if_pos (by omega)]
   congr 1;omega
  ·rw [if_neg hjm]
   rw [List.getElem?_eq_none (by omega)]
theorem app_mt (r:Rel c w0 n gs st a) (hK:NextOK P Q q c w0 n gs st a o.dst K) {cl:Call} {x1 x2:Operand} {t e:TypeId} {k bytes id ver len:Nat} {xs ys:List (List Dat)} (ho:o.op = .call cl) (hb:cl.callee = .builtin .append) (hx:cl.args.toList=[x1,x2]) (ht:cl.argTypes.toList=[t,t])
  (he:ElemT P t e k bytes) (hl' : look st.heap id=some (.mt k ver xs)) (hv1:RelV c (.ref id ver 0 len) (a.eval x1)) (e2:SrcOK c k (a.eval x2) ys) (hby:(len+ys.length) * bytes≤70368744177664)
  (h:WT P Q (q (.ref id (ver+1) 0 (len+ys.length)) { st with heap:=(id,.mt k (ver+1) (xs.take len++ys))::st.heap })):o.wp P a c.w K Qx:=by
 have hl:look c.heap id=some (.mt k ver xs):=by rw [r.heap];exact hl'
 simp only [RelV,hl] at hv1
 obtain ⟨_,_,hv1⟩:=hv1
 obtain ⟨v1,v2⟩:=hv1 rfl
 simp only [Nat.zero_add,Nat.sub_zero,Nat.zero_mul] at v1 v2
 obtain ⟨b3,b4,bb⟩:=r.hrel.blk id _ hl
 have hll:(xs.take len).length=len:=by simp;omega
 have hk1:∀x∈xs.take len,x.length=k:=fun x hx=>b4 x (List.mem_of_mem_take hx)
 by_cases hcap0:(c.pl id).cap=0
 ·-- there is no room,and nothing
  have hl0:len=0:=by omega
  have hxs:xs=[]:=List.eq_nil_of_length_eq_zero (by omega)
  subst hl0 hxs
  have nph:¬Ph (c.pl id) (.mt k ver []):=by simp [Ph,hcap0]
  obtain ⟨xa,hxa,hxa'⟩:∃xa:Option Addr,a.eval x1 = .slice xa 0 0∧(xa=none∨∃b o,xa=some ⟨b,o,none⟩):=by
   rcases v2 with ⟨v2,_⟩|⟨b,o1,v2,_⟩
   ·exact ⟨none,v2,.inl rfl⟩
   ·exact ⟨some ⟨b,o1,none⟩,by rw [v2,hcap0],.inr ⟨b,o1,rfl⟩⟩
  have hstay:ys=[]→(∃xb xc,a.eval x2 = .slice xb 0 xc)→o.wp P a c.w K Qx:=by
   rintro rfl ⟨xb,xc,hx2⟩
   simp only [List.append_nil,List.take_nil,List.length_nil,Nat.add_zero] at h
   have hrel:Rel (c.setBlk id (.mt k (ver+1) []) (c.pl id) c.w) w0 n gs { st with heap:=(id,.mt k (ver+1) [])::st.heap } a:=by
    refine r.setBlk hl (fun _ _ _=>rfl) (Nat.le_refl _) (Below.refl _ _) (.inl ⟨rfl,fun h=>h⟩) (fun hh=>(nph hh).elim) ⟨rfl,by omega,fun hh=>by omega⟩ (fun hev=>?_)
    exact ⟨by simp,by simp,fun hh=>by rw [look_setBlk_same.2] at hh;omega⟩
   refine wp_value (w':=c.w) (run_call_append ho hb hx ht ?_) (hK (c.setBlk id (.mt k (ver+1) []) (c.pl id) c.w) _ (.ref id (ver+1) 0 0) (.slice xa 0 0) rfl rfl hrel rfl ?_ h)
   ·rw [hxa,hx2]
    obtain ⟨i,z,zs,hi,_⟩:=he.info
    exact run_app_zero he.und hi (by omega)
   ·simp only [RelV,look_setBlk_same.1]
    refine ⟨Nat.le_refl _,⟨_,_,_,rfl⟩,fun _=>⟨by simp,?_⟩⟩
    rw [look_setBlk_same.2]
    rcases hxa' with rfl|⟨b,o1,rfl⟩
    ·exact .inl ⟨rfl,rfl,rfl,hcap0⟩
    ·exact .inr ⟨b,o1,by rw [hcap0],fun hh=>by omega⟩
  rcases e2 with ⟨⟨_,e2⟩,rfl⟩|⟨bb',o',cp,us,e2,e3,e4,e5,e6,e7,e8⟩
  ·exact hstay rfl ⟨_,0,e2⟩
  ·by_cases hy0:ys=[]
   ·exact hstay hy0 ⟨_,cp,by rw [e2,hy0];rfl⟩
   ·have hpos' : 0<ys.length:=by cases ys<;>simp_all
    simp only [List.take_nil,List.nil_append,Nat.zero_add] at h hby
    have hrun:∃w' cap' vs',(Builtin.append_ #[t,t] o.type #[a.eval x1,a.eval x2]).run P c.w = .ok (.slice (some ⟨c.w.heap.size,0,none⟩) ys.length cap') w'∧ys.length≤cap'∧w' = c.w.drew.alloc (.cells vs' e)∧vs'.size=cap' * k∧vs'.toList.take (ys.length * k)=us:=by
     rcases hxa' with rfl|⟨b,o1,rfl⟩
     ·obtain ⟨i,z,zs,hi,hsz,hbyt,hzero,hzs,hzk⟩:=he.info
      have hlen:ys.length≤70368744177664:=Nat.le_trans (Nat.le_mul_of_pos_right _ he.pos) hby
      have hge:=grownCap_ge c.w ys.length 0 e
      rw [hxa,e2]
      refine ⟨_,_,_,run_append_nil c.w t o.type e i z he.und hi hzero ⟨bb',o',none⟩ ys.length cp us (by rw [hsz];exact e6) (fun j v hv=>by rw [addr_add];exact e7 j v hv) hpos' (by omega) (by rw [hbyt];omega),hge,rfl,?_,?_⟩
      ·have hz' : (Builtin.zeroCells z.cells (grownCap c.w ys.length 0 e - ys.length)).size=(grownCap c.w ys.length 0 e - ys.length) * k:=by simp [Builtin.zeroCells,hzk]
       rw [Array.size_append,hz',List.size_toArray,e6,← Nat.add_mul]
       congr 1;omega
      ·rw [Array.toList_append,← e6];simp
     ·rw [hxa,e2]
      exact run_app_none he e6 e7 hpos' hby
    obtain ⟨w',cap',vs',hw',hroom,rfl,hs',htake⟩:=hrun
    have hbel:Below c.B c.w (c.w.drew.alloc (.cells vs' e)):=(Below.refl c.B c.w).drew.alloc r.hrel.B_le _
    have hrel:Rel (c.setBlk id (.mt k (ver+1) ys) ⟨c.w.heap.size,cap'⟩ (c.w.drew.alloc (.cells vs' e))) w0 n gs { st with heap:=(id,.mt k (ver+1) ys)::st.heap } a:=by
     refine r.setBlk hl (fun k' hk' _=>Below.heap_alloc c.w.drew _ _ hk') (by rw [show (c.w.drew.alloc (Obj.cells vs' e)).heap=c.w.heap.push (.cells vs' e) from rfl];simp) hbel (.inr (Nat.le_refl _)) (fun hh=>(nph hh).elim) ⟨rfl,by omega,fun hh=>by omega⟩ (fun hev=>?_)
     refine ⟨by rw [look_setBlk_same.2];exact hroom,e4,fun _=>⟨vs',e,?_,by rw [look_setBlk_same.2];exact hs',?_,?_⟩⟩
     ·rw [look_setBlk_same.2]
      show (c.w.heap.push (.cells vs' e))[c.w.heap.size]? = _
      simp
     ·rw [htake];exact RelL.keep hev.keeps _ _ e5
     ·rw [htake];exact e8
    refine wp_value (run_call_append ho hb hx ht hw') (hK (c.setBlk id (.mt k (ver+1) ys) ⟨c.w.heap.size,cap'⟩ (c.w.drew.alloc (.cells vs' e))) _ (.ref id (ver+1) 0 ys.length) _ rfl rfl hrel rfl ?_ h)
    simp only [RelV,look_setBlk_same.1]
    refine ⟨Nat.le_refl _,⟨_,_,_,rfl⟩,fun _=>⟨by omega,.inr ⟨c.w.heap.size,0,?_,?_⟩⟩⟩
    ·rw [look_setBlk_same.2];rfl
    ·rw [look_setBlk_same.2];simp
 have hcap:0<(c.pl id).cap:=by omega
 obtain ⟨vs,e',b1,b2,b5,b6⟩:=bb hcap
 have hge:=r.hrel.ge id _ hl hcap
 have hgb:=r.hrel.geB hl hcap
 obtain ⟨b,o1,v2,v3⟩:∃b o,a.eval x1 = .slice (some ⟨b,o,none⟩) len (c.pl id).cap∧(0<(c.pl id).cap→b=(c.pl id).gb∧o=0):=by
  rcases v2 with ⟨_,_,_,v2⟩|v2
  ·omega
  ·exact v2
 have hlk:len * k≤xs.length * k:=Nat.mul_le_mul_right _ v1
 have hsz:xs.length * k≤vs.size:=by rw [b2];exact Nat.mul_le_mul_right _ b3
 have htk:(vs.toList.take (xs.length * k)).take (len * k)=vs.toList.take (len * k):=by rw [List.take_take];congr 1;omega
 have hold:RelL c.w (Imm c) (xs.take len).flatten (vs.toList.take (len * k)):=by
  rw [flatten_take b4 len v1,← htk];exact b5.take _
 have hone:∀v∈vs.toList.take (len * k),one v=true:=fun v hv=>b6 v (by rw [← htk] at hv;exact List.mem_of_mem_take hv)
 have noimm:∀o,Imm c (c.pl id).gb o→False:=by
  intro o hi
  rcases hi with hi|⟨_,_,g3⟩
  ·exact hge hi.1
  ·obtain ⟨_,_,hh,_⟩:=g3 id _ hl hcap rfl;cases hh
 -- nothing is appended
 have zero:ys=[]→(∃xb xc,a.eval x2 = .slice xb 0 xc)→o.wp P a c.w K Qx:=by
  rintro rfl ⟨xb,xc,hx2⟩
  simp only [List.append_nil,List.length_nil,Nat.add_zero] at h
  have hrel:Rel (c.setBlk id (.mt k (ver+1) (xs.take len)) (c.pl id) c.w) w0 n gs { st with heap:=(id,.mt k (ver+1) (xs.take len))::st.heap } a:=by
   refine r.setBlk hl (fun _ _ _=>rfl) (Nat.le_refl _) (Below.refl _ _) (.inl ⟨rfl,fun _=>hcap⟩) (fun _ o hi=>(noimm o hi).elim) ⟨rfl,by omega,fun hh=>by omega⟩ (fun hev=>?_)
   refine ⟨by rw [look_setBlk_same.2];omega,hk1,fun _=>⟨vs,e',by rw [look_setBlk_same.2];exact b1,by rw [look_setBlk_same.2];exact b2,?_,?_⟩⟩
   ·rw [hll];exact RelL.keep hev.keeps _ _ hold
   ·rw [hll];exact hone
  refine wp_value (w':=c.w) (run_call_append ho hb hx ht ?_) (hK (c.setBlk id (.mt k (ver+1) (xs.take len)) (c.pl id) c.w) _ (.ref id (ver+1) 0 len) (a.eval x1) rfl rfl hrel rfl ?_ h)
  ·rw [v2,hx2]
   obtain ⟨i,z,zs,hi,_⟩:=he.info
   exact run_app_zero he.und hi (by omega)
  ·simp only [RelV,look_setBlk_same.1]
   refine ⟨Nat.le_refl _,⟨_,_,_,v2⟩,fun _=>⟨by omega,.inr ⟨b,o1,?_,?_⟩⟩⟩
   ·rw [look_setBlk_same.2];exact v2
   ·rw [look_setBlk_same.2];simpa using v3
 rcases e2 with ⟨⟨_,e2⟩,rfl⟩|⟨bb,o',cp,us,e2,e3,e4,e5,e6,e7,e8⟩
 ·exact zero rfl ⟨_,0,e2⟩
 ·by_cases hy0:ys=[]
  ·exact zero hy0 ⟨_,cp,by rw [e2,hy0];rfl⟩
  ·have hpos' : 0<ys.length:=by cases ys<;>simp_all
   have hk2:∀x∈xs.take len++ys,x.length=k:=fun x hx=>by rcases List.mem_append.1 hx with hx|hx;exact hk1 x hx;exact e4 x hx
   have hfl:RelL c.w (Imm c) (xs.take len++ys).flatten (vs.toList.take (len * k)++us):=by rw [List.flatten_append];exact hold.append e5
   have hone2:∀v∈vs.toList.take (len * k)++us,one v=true:=fun v hv=>by rcases List.mem_append.1 hv with hv|hv;exact hone v hv;exact e8 v hv
   have hll2:(xs.take len++ys).length=len+ys.length:=by rw [List.length_append,hll]
   -- it moves
   have moved:∀(w' : World) (cap' : Nat) (vs' : Array Value),(Builtin.append_ #[t,t] o.type #[a.eval x1,a.eval x2]).run P c.w = .ok (.slice (some ⟨c.w.heap.size,0,none⟩) (len+ys.length) cap') w'→len+ys.length≤cap'→w' = c.w.drew.alloc (.cells vs' e)→vs'.size=cap' * k→
     vs'.toList.take ((len+ys.length) * k)=vs.toList.take (len * k)++us→o.wp P a c.w K Qx:=by
    rintro w' cap' vs' hw' hroom rfl hs' htake
    have hbel:Below c.B c.w (c.w.drew.alloc (.cells vs' e)):=(Below.refl c.B c.w).drew.alloc r.hrel.B_le _
    have hrel:Rel (c.setBlk id (.mt k (ver+1) (xs.take len++ys)) ⟨c.w.heap.size,cap'⟩ (c.w.drew.alloc (.cells vs' e))) w0 n gs { st with heap:=(id,.mt k (ver+1) (xs.take len++ys))::st.heap } a:=by
     refine r.setBlk hl (fun k' hk' _=>Below.heap_alloc c.w.drew _ _ hk') (by rw [show (c.w.drew.alloc (Obj.cells vs' e)).heap=c.w.heap.push (.cells vs' e) from rfl];simp) hbel (.inr (Nat.le_refl _)) (fun _ o hi=>(noimm o hi).elim) ⟨rfl,by omega,fun hh=>by omega⟩ (fun hev=>?_)
     refine ⟨by rw [look_setBlk_same.2,hll2];exact hroom,hk2,fun _=>⟨vs',e,?_,by rw [look_setBlk_same.2];exact hs',?_,?_⟩⟩
     ·rw [look_setBlk_same.2]
      show (c.w.heap.push (.cells vs' e))[c.w.heap.size]? = _
      simp
     ·rw [hll2,htake];exact RelL.keep hev.keeps _ _ hfl
     ·rw [hll2,htake];exact hone2
    refine wp_value (run_call_append ho hb hx ht hw') (hK (c.setBlk id (.mt k (ver+1) (xs.take len++ys)) ⟨c.w.heap.size,cap'⟩ (c.w.drew.alloc (.cells vs' e))) _ (.ref id (ver+1) 0 (len+ys.length)) _ rfl rfl hrel rfl ?_ h)
    simp only [RelV,look_setBlk_same.1]
    refine ⟨Nat.le_refl _,⟨_,_,_,rfl⟩,fun _=>⟨by omega,.inr ⟨c.w.heap.size,0,?_,?_⟩⟩⟩
    ·rw [look_setBlk_same.2];rfl
    ·rw [look_setBlk_same.2];simp
   obtain ⟨rfl,rfl⟩:=v3 hcap
   rcases run_app_row (ty:=o.type) (cp:=cp) he b1 b2 (by omega) hone e6 e7 e8 hby with ⟨w',hw',hroom,L⟩|⟨w',cap',vs',hw',hroom,rfl,hs',htake⟩
   ·have hrel:Rel (c.setBlk id (.mt k (ver+1) (xs.take len++ys)) (c.pl id) w') w0 n gs { st with heap:=(id,.mt k (ver+1) (xs.take len++ys))::st.heap } a:=by
     refine r.setBlk hl (fun k' _ hk'=>L.other k' (hk' hcap)) (by rw [L.size];exact Nat.le_refl _) (L.below hgb) (.inl ⟨rfl,fun _=>hcap⟩) (fun _ o hi=>(noimm o hi).elim) ⟨rfl,by omega,fun hh=>by omega⟩ (fun hev=>?_)
     have htk2:(layAt vs (len * k) us).toList.take ((xs.take len++ys).length * k)=vs.toList.take (len * k)++us:=by
      refine layAt_take ?_ ?_
      ·rw [hll2,e6,Nat.add_mul]
      ·rw [hll2,b2];exact Nat.mul_le_mul_right _ hroom
     refine ⟨by rw [look_setBlk_same.2,hll2];exact hroom,hk2,fun _=>⟨_,e',by rw [look_setBlk_same.2];exact L.here,by rw [look_setBlk_same.2,size_layAt];exact b2,?_,?_⟩⟩
     ·rw [htk2];exact RelL.keep hev.keeps _ _ hfl
     ·rw [htk2];exact hone2
    refine wp_value (w':=w') (run_call_append ho hb hx ht (by rw [v2,e2];exact hw')) (hK (c.setBlk id (.mt k (ver+1) (xs.take len++ys)) (c.pl id) w') _ (.ref id (ver+1) 0 (len+ys.length)) _ rfl rfl hrel rfl ?_ h)
    simp only [RelV,look_setBlk_same.1]
    refine ⟨Nat.le_refl _,⟨_,_,_,rfl⟩,fun _=>⟨by omega,.inr ⟨(c.pl id).gb,0,?_,?_⟩⟩⟩
    ·rw [look_setBlk_same.2];rfl
    ·rw [look_setBlk_same.2];simp
   ·exact moved _ cap' vs' (by rw [v2,e2];exact hw') hroom rfl hs' htake
end
end Uw
namespace Uw
open Go Go.RowKit
variable [Glob]
section
variable {P : Program} {Q : MExit → St → Prop} {q : V → St → Tree} {c : Cx} {w0 : World} {n : Nat} {gs : Fr} {st : St} {a : Act} {K : Act → World → Prop} {Qx : Exit → Act → World → Prop} {o : Oper} {xx : MExit → St → Tree}
theorem arr_rel {c' : Cx} {id k cap gb:Nat} {xs:List (List Dat)} {us:List Value} {vs:Array Value} {e:TypeId} {w0' : World} {next:Nat} (hlook:look c'.heap id=some (.arr k xs)) (hpl:c'.pl id=⟨gb,cap⟩) (hblk:c'.w.heap[gb]? = some (.cells vs e (0,0))) (hB:¬c'.Old gb)
  (hinj:∀id' b',look c'.heap id' = some b'→Ph (c'.pl id') b'→(c'.pl id').gb=gb→id' = id)
  (h1:∀x∈xs,x.length=k) (h2:RelL c'.w (Imm c') xs.flatten us) (h3:∀v∈us,one v=true) (h6:vs.toList.take (xs.length * k)=us):RelE c'.w (Imm c') gb k 0 xs:=by
 have hul:us.length=xs.length * k:=by rw [h2.length,flatten_len h1]
 refine RelE.of_flat h1 h2 ?_
 intro j v hv
 have hj:j<us.length:=by
  by_cases hh:j<us.length
  ·exact hh
  ·rw [List.getElem?_eq_none (by omega)] at hv;cases hv
 refine ⟨?_,?_,h3 v (List.mem_of_getElem? hv)⟩
 ·rw [cell_in_block hblk]
  rw [← h6,List.getElem?_take,if_pos (by omega)] at hv
  simpa using hv
 ·refine .inr ⟨hB,?_,?_⟩
  ·by_cases hlt:gb<c'.w.heap.size
   ·exact hlt
   ·rw [Array.getElem?_eq_none (by omega)] at hblk;cases hblk
  ·intro id' blk hl hph hg
   have:=hinj id' blk hl hph hg
   subst this
   rw [hlook] at hl;injection hl with hl;subst hl
   exact ⟨k,xs,rfl,by omega⟩
theorem app_arr (r:Rel c w0 n gs st a) (hK:NextOK P Q q c w0 n gs st a o.dst K) {cl:Call} {x1 x2:Operand} {t e:TypeId} {k bytes id ver len:Nat} {xs ys:List (List Dat)} (ho:o.op = .call cl) (hb:cl.callee = .builtin .append) (hx:cl.args.toList=[x1,x2]) (ht:cl.argTypes.toList=[t,t])
  (he:ElemT P t e k bytes) (hl' : look st.heap id=some (.arr k xs)) (hv1:RelV c (.ref id ver 0 len) (a.eval x1)) (e2:SrcOK c k (a.eval x2) ys) (hlen:len=xs.length) (hby:(len+ys.length) * bytes≤70368744177664)
  (h:WT P Q (q (.ref id 0 0 (len+ys.length)) { st with heap:=(id,.arr k (xs++ys))::st.heap })):o.wp P a c.w K Qx:=by
 have hl:look c.heap id=some (.arr k xs):=by rw [r.heap];exact hl'
 subst hlen
 simp only [RelV,hl] at hv1
 obtain ⟨_,hv1⟩:=hv1
 obtain ⟨b3,bb⟩:=r.hrel.blk id _ hl
 by_cases hcap0:(c.pl id).cap=0
 ·-- there is no room,and nothing
  have hxs:xs=[]:=List.eq_nil_of_length_eq_zero (by omega)
  subst hxs
  have nph:¬Ph (c.pl id) (.arr k []):=by simp [Ph,hcap0]
  obtain ⟨xa,hxa,hxa'⟩:∃xa:Option Addr,a.eval x1 = .slice xa 0 0∧(xa=none∨∃b o,xa=some ⟨b,o,none⟩):=by
   rcases hv1 with ⟨v2,_⟩|⟨b,o1,cap,v2,_,_,v3⟩
   ·exact ⟨none,v2,.inl rfl⟩
   ·obtain ⟨v3,_⟩:=v3 (by simp)
    exact ⟨some ⟨b,o1,none⟩,by rw [v2,v3,hcap0];rfl,.inr ⟨b,o1,rfl⟩⟩
  have hstay:ys=[]→(∃xb xc,a.eval x2 = .slice xb 0 xc)→o.wp P a c.w K Qx:=by
   rintro rfl ⟨xb,xc,hx2⟩
   simp only [List.append_nil,List.length_nil,Nat.add_zero] at h
   have hrel:Rel (c.setBlk id (.arr k []) (c.pl id) c.w) w0 n gs { st with heap:=(id,.arr k [])::st.heap } a:=by
    refine r.setBlk hl (fun _ _ _=>rfl) (Nat.le_refl _) (Below.refl _ _) (.inl ⟨rfl,fun h=>h⟩) (fun hh=>(nph hh).elim) ⟨rfl,⟨[],rfl⟩,fun _=>rfl⟩ (fun hev=>?_)
    exact ⟨by simp,fun hh=>by rw [look_setBlk_same.2] at hh;omega⟩
   refine wp_value (w':=c.w) (run_call_append ho hb hx ht ?_) (hK (c.setBlk id (.arr k []) (c.pl id) c.w) _ (.ref id 0 0 0) (.slice xa 0 0) rfl rfl hrel rfl ?_ h)
   ·rw [hxa,hx2]
    obtain ⟨i,z,zs,hi,_⟩:=he.info
    exact run_app_zero he.und hi (by omega)
   ·simp only [RelV,look_setBlk_same.1]
    refine ⟨by simp,?_⟩
    rw [look_setBlk_same.2]
    rcases hxa' with rfl|⟨b,o1,rfl⟩
    ·exact .inl ⟨rfl,rfl,fun _=>hcap0⟩
    ·exact .inr ⟨b,o1,0,rfl,by simp,by simp [RelE],fun _=>⟨by rw [hcap0],fun hh=>by omega⟩⟩
  rcases e2 with ⟨⟨_,e2⟩,rfl⟩|⟨bb',o',cp,us,e2,e3,e4,e5,e6,e7,e8⟩
  ·exact hstay rfl ⟨_,0,e2⟩
  ·by_cases hy0:ys=[]
   ·exact hstay hy0 ⟨_,cp,by rw [e2,hy0];rfl⟩
   ·have hpos' : 0<ys.length:=by cases ys<;>simp_all
    simp only [List.nil_append,List.length_nil,Nat.zero_add] at h hby
    have hrun:∃w' cap' vs',(Builtin.append_ #[t,t] o.type #[a.eval x1,a.eval x2]).run P c.w = .ok (.slice (some ⟨c.w.heap.size,0,none⟩) ys.length cap') w'∧ys.length≤cap'∧w' = c.w.drew.alloc (.cells vs' e)∧vs'.size=cap' * k∧vs'.toList.take (ys.length * k)=us:=by
     rcases hxa' with rfl|⟨b,o1,rfl⟩
     ·obtain ⟨i,z,zs,hi,hsz,hbyt,hzero,hzs,hzk⟩:=he.info
      have hlen:ys.length≤70368744177664:=Nat.le_trans (Nat.le_mul_of_pos_right _ he.pos) hby
      have hge:=grownCap_ge c.w ys.length 0 e
      rw [hxa,e2]
      refine ⟨_,_,_,run_append_nil c.w t o.type e i z he.und hi hzero ⟨bb',o',none⟩ ys.length cp us (by rw [hsz];exact e6) (fun j v hv=>by rw [addr_add];exact e7 j v hv) hpos' (by omega) (by rw [hbyt];omega),hge,rfl,?_,?_⟩
      ·have hz' : (Builtin.zeroCells z.cells (grownCap c.w ys.length 0 e - ys.length)).size=(grownCap c.w ys.length 0 e - ys.length) * k:=by simp [Builtin.zeroCells,hzk]
       rw [Array.size_append,hz',List.size_toArray,e6,← Nat.add_mul]
       congr 1;omega
      ·rw [Array.toList_append,← e6];simp
     ·rw [hxa,e2]
      exact run_app_none he e6 e7 hpos' hby
    obtain ⟨w',cap',vs',hw',hroom,rfl,hs',htake⟩:=hrun
    have hbel:Below c.B c.w (c.w.drew.alloc (.cells vs' e)):=(Below.refl c.B c.w).drew.alloc r.hrel.B_le _
    have hblk:(c.w.drew.alloc (.cells vs' e)).heap[c.w.heap.size]? = some (.cells vs' e (0,0)):=by
     show (c.w.heap.push (.cells vs' e))[c.w.heap.size]? = _
     simp
    have hsz2:c.w.heap.size≤(c.w.drew.alloc (.cells vs' e)).heap.size:=by rw [show (c.w.drew.alloc (Obj.cells vs' e)).heap=c.w.heap.push (.cells vs' e) from rfl];simp
    have hbe:BlkEvo (c.pl id) ⟨c.w.heap.size,cap'⟩ (.arr k []) (.arr k ys):=⟨rfl,⟨ys,rfl⟩,fun hh=>(hy0 hh).elim⟩
    have hev:=Evo.setBlk (p':=⟨c.w.heap.size,cap'⟩) (b':=.arr k ys) (w':=c.w.drew.alloc (.cells vs' e)) r.hrel hl (fun k' hk' _=>Below.heap_alloc c.w.drew _ _ hk') hsz2 (.inr (Nat.le_refl _)) (fun hh=>(nph hh).elim) hbe
    have hinj0:∀id' x,look (c.setBlk id (.arr k ys) ⟨c.w.heap.size,cap'⟩ (c.w.drew.alloc (.cells vs' e))).heap id' = some x→Ph ((c.setBlk id (.arr k ys) ⟨c.w.heap.size,cap'⟩ (c.w.drew.alloc (.cells vs' e))).pl id') x→((c.setBlk id (.arr k ys) ⟨c.w.heap.size,cap'⟩ (c.w.drew.alloc (.cells vs' e))).pl id').gb=c.w.heap.size→id' = id:=by
     intro id' x hx hph hg
     by_cases hid:id=id'
     ·exact hid.symm
     ·exfalso
      rw [(look_setBlk hid).1] at hx
      rw [(look_setBlk hid).2] at hg hph
      have:=r.hrel.gb_lt hx hph
      omega
    have hE:RelE (c.setBlk id (.arr k ys) ⟨c.w.heap.size,cap'⟩ (c.w.drew.alloc (.cells vs' e))).w (Imm (c.setBlk id (.arr k ys) ⟨c.w.heap.size,cap'⟩ (c.w.drew.alloc (.cells vs' e)))) c.w.heap.size k 0 ys:=
     arr_rel (w0':=w0) (next:=0) look_setBlk_same.1 look_setBlk_same.2 hblk (r.hrel.old_ge (Nat.le_refl _)) hinj0 e4 (RelL.keep hev.keeps _ _ e5) e8 htake
    have hrel:Rel (c.setBlk id (.arr k ys) ⟨c.w.heap.size,cap'⟩ (c.w.drew.alloc (.cells vs' e))) w0 n gs { st with heap:=(id,.arr k ys)::st.heap } a:=by
     refine r.setBlk hl (fun k' hk' _=>Below.heap_alloc c.w.drew _ _ hk') hsz2 hbel (.inr (Nat.le_refl _)) (fun hh=>(nph hh).elim) hbe (fun _=>?_)
     exact ⟨by rw [look_setBlk_same.2];exact hroom,fun _=>⟨vs',e,by rw [look_setBlk_same.2];exact hblk,by rw [look_setBlk_same.2];exact hs',by rw [look_setBlk_same.2];exact hE⟩⟩
    refine wp_value (run_call_append ho hb hx ht hw') (hK (c.setBlk id (.arr k ys) ⟨c.w.heap.size,cap'⟩ (c.w.drew.alloc (.cells vs' e))) _ (.ref id 0 0 ys.length) _ rfl rfl hrel rfl ?_ h)
    simp only [RelV,look_setBlk_same.1]
    refine ⟨by omega,.inr ⟨c.w.heap.size,0,cap',rfl,hroom,?_,fun _=>?_⟩⟩
    ·rw [List.drop_zero,List.take_of_length_le (by omega)];exact hE
    ·rw [look_setBlk_same.2];simp
 have hcap:0<(c.pl id).cap:=by omega
 obtain ⟨vs,e',b1,b2,b4⟩:=bb hcap
 have hge:=r.hrel.ge id _ hl hcap
 have hgb:=r.hrel.geB hl hcap
 obtain ⟨b,o1,v2,v4,v5,v3⟩:∃b o1,a.eval x1 = .slice (some ⟨b,o1,none⟩) xs.length (c.pl id).cap∧xs.length≤(c.pl id).cap∧RelE c.w (Imm c) b k o1 ((xs.drop 0).take xs.length)∧(0<(c.pl id).cap→b=(c.pl id).gb∧o1=0):=by
  rcases hv1 with ⟨_,v2,v3⟩|⟨b,o1,cap,v2,v4,v5,v3⟩
  ·have:=v3 (by omega);omega
  ·obtain ⟨v6,v3'⟩:=v3 (by omega)
   simp only [Nat.sub_zero,Nat.zero_mul] at v6 v3'
   subst v6
   exact ⟨b,o1,v2,v4,v5,v3'⟩
 obtain ⟨hk1,olds,p2,p3,p4,p5⟩:=RelE.flat b4
 have hsz:xs.length * k≤vs.size:=by rw [b2];exact Nat.mul_le_mul_right _ b3
 have hold:vs.toList.take (xs.length * k)=olds:=by
  apply List.ext_getElem?
  intro j
  rw [List.getElem?_take]
  by_cases hj:j<xs.length * k
  ·rw [if_pos hj]
   have hj' : j<olds.length:=by omega
   have:=p4 j olds[j] (List.getElem?_eq_getElem hj')
   rw [cell_in_block b1] at this
   rw [List.getElem?_eq_getElem hj']
   simpa using this
  ·rw [if_neg hj,List.getElem?_eq_none (by omega)]
 have immlt:∀o',Imm c (c.pl id).gb o'→o' < xs.length * k:=by
  intro o' hi
  rcases hi with hi|⟨_,_,g3⟩
  ·exact (hge hi.1).elim
  ·obtain ⟨k',xs',hh,h4⟩:=g3 id _ hl hcap rfl
   injection hh with h5 h6
   subst h5 h6
   exact h4
 have hinj:∀(b' : Blk) (p' : Pl) (w' : World),(p'.gb=(c.pl id).gb∨c.w.heap.size≤p'.gb)→∀id' x,look (c.setBlk id b' p' w').heap id' = some x→Ph ((c.setBlk id b' p' w').pl id') x→((c.setBlk id b' p' w').pl id').gb=p'.gb→id' = id:=by
  intro b' p' w' hp id' x hx hph hg
  by_cases hid:id=id'
  ·exact hid.symm
  ·exfalso
   rw [(look_setBlk hid).1] at hx
   rw [(look_setBlk hid).2] at hg hph
   have:=r.hrel.gb_lt hx hph
   rcases hp with hp|hp
   ·exact hid (r.hrel.inj id' id x _ hx hl hph hcap (by rw [hg,hp])).symm
   ·omega
 have zero:ys=[]→(∃xb xc,a.eval x2 = .slice xb 0 xc)→o.wp P a c.w K Qx:=by
  rintro rfl ⟨xb,xc,hx2⟩
  simp only [List.append_nil,List.length_nil,Nat.add_zero] at h
  have himm:∀o',Imm c (c.pl id).gb o'→c.w.cell? ⟨(c.pl id).gb,o',none⟩=c.w.cell? ⟨(c.pl id).gb,o',none⟩∧((c.pl id).gb=(c.pl id).gb→∃k' xs',Blk.arr k xs = .arr k' xs'∧o' < xs'.length * k'):=
   fun o' hi=>⟨rfl,fun _=>⟨k,xs,rfl,immlt o' hi⟩⟩
  have hbe:BlkEvo (c.pl id) (c.pl id) (.arr k xs) (.arr k xs):=⟨rfl,⟨[],by simp⟩,fun _=>rfl⟩
  have hev:=Evo.setBlk (p':=c.pl id) (b':=.arr k xs) r.hrel hl (fun _ _ _=>rfl) (Nat.le_refl _) (.inl ⟨rfl,fun _=>hcap⟩) (fun _=>himm) hbe
  have hrel:Rel (c.setBlk id (.arr k xs) (c.pl id) c.w) w0 n gs { st with heap:=(id,.arr k xs)::st.heap } a:=by
   refine r.setBlk hl (fun _ _ _=>rfl) (Nat.le_refl _) (Below.refl _ _) (.inl ⟨rfl,fun _=>hcap⟩) (fun _=>himm) hbe (fun hev=>?_)
   refine ⟨by rw [look_setBlk_same.2];exact b3,fun _=>⟨vs,e',by rw [look_setBlk_same.2];exact b1,by rw [look_setBlk_same.2];exact b2,by rw [look_setBlk_same.2];exact RelE.keep hev.keeps _ _ _ _ b4⟩⟩
  refine wp_value (w':=c.w) (run_call_append ho hb hx ht ?_) (hK (c.setBlk id (.arr k xs) (c.pl id) c.w) _ (.ref id 0 0 xs.length) (a.eval x1) rfl rfl hrel rfl ?_ h)
  ·rw [v2,hx2]
   obtain ⟨i,z,zs,hi,_⟩:=he.info
   exact run_app_zero he.und hi (by omega)
  ·simp only [RelV,look_setBlk_same.1]
   refine ⟨by omega,.inr ⟨b,o1,(c.pl id).cap,v2,v4,RelE.keep hev.keeps _ _ _ _ v5,fun _=>?_⟩⟩
   rw [look_setBlk_same.2]
   exact ⟨rfl,by simpa using v3⟩
 rcases e2 with ⟨⟨_,e2⟩,rfl⟩|⟨bb,o',cp,us,e2,e3,e4,e5,e6,e7,e8⟩
 ·exact zero rfl ⟨_,0,e2⟩
 ·by_cases hy0:ys=[]
  ·exact zero hy0 ⟨_,cp,by rw [e2,hy0];rfl⟩
  ·have hpos' : 0<ys.length:=by cases ys<;>simp_all
   have hk2:∀x∈xs++ys,x.length=k:=fun x hx=>by rcases List.mem_append.1 hx with hx|hx;exact hk1 x hx;exact e4 x hx
   have hfl:RelL c.w (Imm c) (xs++ys).flatten (olds++us):=by rw [List.flatten_append];exact p2.append e5
   have hone2:∀v∈olds++us,one v=true:=fun v hv=>by rcases List.mem_append.1 hv with hv|hv;exact p5 v hv;exact e8 v hv
   have hll2:(xs++ys).length=xs.length+ys.length:=List.length_append
   have hne:(xs++ys=xs→False):=fun hh=>by have:=congrArg List.length hh;rw [List.length_append] at this;omega
   -- it moves
   have moved:∀(w' : World) (cap' : Nat) (vs' : Array Value),(Builtin.append_ #[t,t] o.type #[a.eval x1,a.eval x2]).run P c.w = .ok (.slice (some ⟨c.w.heap.size,0,none⟩) (xs.length+ys.length) cap') w'→xs.length+ys.length≤cap'→w' = c.w.drew.alloc (.cells vs' e)→vs'.size=cap' * k→
     vs'.toList.take ((xs.length+ys.length) * k)=olds++us→o.wp P a c.w K Qx:=by
    rintro w' cap' vs' hw' hroom rfl hs' htake
    have hbel:Below c.B c.w (c.w.drew.alloc (.cells vs' e)):=(Below.refl c.B c.w).drew.alloc r.hrel.B_le _
    have hblk:(c.w.drew.alloc (.cells vs' e)).heap[c.w.heap.size]? = some (.cells vs' e (0,0)):=by
     show (c.w.heap.push (.cells vs' e))[c.w.heap.size]? = _
     simp
    have hlt:=r.hrel.gb_lt hl hcap
    have himm:∀o',Imm c (c.pl id).gb o'→(c.w.drew.alloc (.cells vs' e)).cell? ⟨(c.pl id).gb,o',none⟩=c.w.cell? ⟨(c.pl id).gb,o',none⟩∧(c.w.heap.size=(c.pl id).gb→∃k' xs',Blk.arr k (xs++ys) = .arr k' xs'∧o' < xs'.length * k'):=
     fun o' hi=>⟨cell_of_block (Below.heap_alloc c.w.drew _ _ hlt),fun hh=>by omega⟩
    have hbe:BlkEvo (c.pl id) ⟨c.w.heap.size,cap'⟩ (.arr k xs) (.arr k (xs++ys)):=⟨rfl,⟨ys,rfl⟩,fun hh=>(hne hh).elim⟩
    have hsz2:c.w.heap.size≤(c.w.drew.alloc (.cells vs' e)).heap.size:=by rw [show (c.w.drew.alloc (Obj.cells vs' e)).heap=c.w.heap.push (.cells vs' e) from rfl];simp
    have hev:=Evo.setBlk (p':=⟨c.w.heap.size,cap'⟩) (b':=.arr k (xs++ys)) (w':=c.w.drew.alloc (.cells vs' e)) r.hrel hl (fun k' hk' _=>Below.heap_alloc c.w.drew _ _ hk') hsz2 (.inr (Nat.le_refl _)) (fun _=>himm) hbe
    have hE:RelE (c.setBlk id (.arr k (xs++ys)) ⟨c.w.heap.size,cap'⟩ (c.w.drew.alloc (.cells vs' e))).w (Imm (c.setBlk id (.arr k (xs++ys)) ⟨c.w.heap.size,cap'⟩ (c.w.drew.alloc (.cells vs' e)))) c.w.heap.size k 0 (xs++ys):=
     arr_rel (w0':=w0) (next:=0) look_setBlk_same.1 look_setBlk_same.2 hblk (r.hrel.old_ge (Nat.le_refl _)) (hinj _ _ _ (.inr (Nat.le_refl _))) hk2 (RelL.keep hev.keeps _ _ hfl) hone2 (by rw [hll2];exact htake)
    have hrel:Rel (c.setBlk id (.arr k (xs++ys)) ⟨c.w.heap.size,cap'⟩ (c.w.drew.alloc (.cells vs' e))) w0 n gs { st with heap:=(id,.arr k (xs++ys))::st.heap } a:=by
     refine r.setBlk hl (fun k' hk' _=>Below.heap_alloc c.w.drew _ _ hk') hsz2 hbel (.inr (Nat.le_refl _)) (fun _=>himm) hbe (fun _=>?_)
     exact ⟨by rw [look_setBlk_same.2,hll2];exact hroom,fun _=>⟨vs',e,by rw [look_setBlk_same.2];exact hblk,by rw [look_setBlk_same.2];exact hs',by rw [look_setBlk_same.2];exact hE⟩⟩
    refine wp_value (run_call_append ho hb hx ht hw') (hK (c.setBlk id (.arr k (xs++ys)) ⟨c.w.heap.size,cap'⟩ (c.w.drew.alloc (.cells vs' e))) _ (.ref id 0 0 (xs.length+ys.length)) _ rfl rfl hrel rfl ?_ h)
    simp only [RelV,look_setBlk_same.1]
    refine ⟨by omega,.inr ⟨c.w.heap.size,0,cap',rfl,hroom,?_,fun _=>?_⟩⟩
    ·rw [List.drop_zero,List.take_of_length_le (by omega)];exact hE
    ·rw [look_setBlk_same.2];simp
   ·obtain ⟨rfl,rfl⟩:=v3 hcap
    rcases run_app_row (ty:=o.type) (cp:=cp) he b1 b2 b3 (by rw [hold];exact p5) e6 e7 e8 hby with ⟨w',hw',hroom,L⟩|⟨w',cap',vs',hw',hroom,hw2,hs',htake⟩
    ·have hlk:xs.length * k+us.length≤vs.size:=by rw [e6,b2,← Nat.add_mul];exact Nat.mul_le_mul_right _ hroom
     have htk2:(layAt vs (xs.length * k) us).toList.take ((xs++ys).length * k)=olds++us:=by
      rw [← hold]
      refine layAt_take ?_ ?_
      ·rw [hll2,e6,Nat.add_mul]
      ·rw [hll2,b2];exact Nat.mul_le_mul_right _ hroom
     have himm:∀o',Imm c (c.pl id).gb o'→w'.cell? ⟨(c.pl id).gb,o',none⟩=c.w.cell? ⟨(c.pl id).gb,o',none⟩∧((c.pl id).gb=(c.pl id).gb→∃k' xs',Blk.arr k (xs++ys) = .arr k' xs'∧o' < xs'.length * k'):=by
      intro o' hi
      have hlt:=immlt o' hi
      refine ⟨?_,fun _=>⟨k,xs++ys,rfl,by rw [hll2,Nat.add_mul];omega⟩⟩
      rw [cell_in_block L.here,cell_in_block b1,← Array.getElem?_toList,layAt_list,setAt_get,if_neg (by omega),Array.getElem?_toList]
     have hbe:BlkEvo (c.pl id) (c.pl id) (.arr k xs) (.arr k (xs++ys)):=⟨rfl,⟨ys,rfl⟩,fun _=>rfl⟩
     have hev:=Evo.setBlk (p':=c.pl id) (b':=.arr k (xs++ys)) (w':=w') r.hrel hl (fun k' _ hk'=>L.other k' (hk' hcap)) (by rw [L.size];exact Nat.le_refl _) (.inl ⟨rfl,fun _=>hcap⟩) (fun _=>himm) hbe
     have hE:RelE (c.setBlk id (.arr k (xs++ys)) (c.pl id) w').w (Imm (c.setBlk id (.arr k (xs++ys)) (c.pl id) w')) (c.pl id).gb k 0 (xs++ys):=
      arr_rel (w0':=w0) (next:=0) (cap:=(c.pl id).cap) look_setBlk_same.1 look_setBlk_same.2 L.here hge (hinj _ _ _ (.inl rfl)) hk2 (RelL.keep hev.keeps _ _ hfl) hone2 htk2
     have hrel:Rel (c.setBlk id (.arr k (xs++ys)) (c.pl id) w') w0 n gs { st with heap:=(id,.arr k (xs++ys))::st.heap } a:=by
      refine r.setBlk hl (fun k' _ hk'=>L.other k' (hk' hcap)) (by rw [L.size];exact Nat.le_refl _) (L.below hgb) (.inl ⟨rfl,fun _=>hcap⟩) (fun _=>himm) hbe (fun _=>?_)
      exact ⟨by rw [look_setBlk_same.2,hll2];exact hroom,fun _=>⟨_,e',by rw [look_setBlk_same.2];exact L.here,by rw [look_setBlk_same.2,size_layAt];exact b2,by rw [look_setBlk_same.2];exact hE⟩⟩
     refine wp_value (w':=w') (run_call_append ho hb hx ht (by rw [v2,e2];exact hw')) (hK (c.setBlk id (.arr k (xs++ys)) (c.pl id) w') _ (.ref id 0 0 (xs.length+ys.length)) _ rfl rfl hrel rfl ?_ h)
     simp only [RelV,look_setBlk_same.1]
     refine ⟨by omega,.inr ⟨(c.pl id).gb,0,(c.pl id).cap,rfl,hroom,?_,fun _=>?_⟩⟩
     ·rw [List.drop_zero,List.take_of_length_le (by omega)];exact hE
     ·rw [look_setBlk_same.2];simp
    ·exact moved w' cap' vs' (by rw [v2,e2];exact hw') hroom hw2 hs' (by rw [← hold];exact htake)
end
end Uw
namespace Uw
open Go Go.RowKit
variable [Glob]
section
variable {P : Program} {Q : MExit → St → Prop} {q : V → St → Tree} {c : Cx} {w0 : World} {n : Nat} {gs : Fr} {st : St} {a : Act} {K : Act → World → Prop} {Qx : Exit → Act → World → Prop} {o : Oper} {xx : MExit → St → Tree}
theorem WT_vtest {vb:Option Bool} {T:Tree} (h:WT P Q (vtest vb T)):vb≠some false∧WT P Q T:=by
 cases vb with
 | none=>exact ⟨by simp,h⟩
 | some b=>
  simp only [vtest,WT] at h
  cases b with
  | true=>exact ⟨by simp,h.1 rfl⟩
  | false=>exact (h.2 rfl).elim
theorem WT_testD {b:Bool} {T:Tree} (h:WT P Q (.test b T .fail)):b=true∧WT P Q T:=by
 simp only [WT] at h
 cases b with
 | true=>exact ⟨rfl,h.1 rfl⟩
 | false=>exact (h.2 rfl).elim
theorem app_emptyN (r:Rel c w0 n gs st a) (hK:NextOK P Q q c w0 n gs st a o.dst K) {cl:Call} {x1 x2:Operand} {t e:TypeId} {m:Bool} {k bytes:Nat} (ho:o.op = .call cl) (hb:cl.callee = .builtin .append) (hx:cl.args.toList=[x1,x2]) (ht:cl.argTypes.toList=[t,t])
  (he:ElemT P t e k bytes) {xa:Option Addr} (hxa:a.eval x1 = .slice xa 0 0) {ys:List (List Dat)} (e2:SrcOK c k (a.eval x2) ys) (hy0:ys≠[]) (hd:ys.length * bytes≤70368744177664)
  (h:WT P Q (q (.ref st.next 0 0 ys.length) (newBlk st (rowBlk m k ys)))):o.wp P a c.w K Qx:=by
 obtain ⟨i,z,zs,hi,hsz,hby,hzero,hzs,hzk⟩:=he.info
 have hund:=he.und
 have hlen:ys.length≤70368744177664:=Nat.le_trans (Nat.le_mul_of_pos_right _ he.pos) hd
 rcases e2 with ⟨⟨_,e2⟩,rfl⟩|⟨b,o',cp,us,e2,e3,e4,e5,e6,e7,e8⟩
 ·exact absurd rfl hy0
 ·have hpos' : 0<ys.length:=by cases ys<;>simp_all
  have hge:=grownCap_ge c.w ys.length 0 e
  obtain ⟨c',pB,pJ,pw,p1,p2⟩:=grown_row r m (e:=e) (z:=z) (cap:=grownCap c.w ys.length 0 e) e4 e5 e8 hzk rfl hge
  refine wp_value (run_call_append ho hb hx ht ?_) (hK c' _ _ _ pB pJ p1 rfl p2 h)
  cases xa with
  | none=>
   rw [hxa,e2,pw]
   exact run_append_nil c.w t o.type e i z hund hi hzero ⟨b,o',none⟩ ys.length cp us (by rw [hsz];exact e6) (fun j v hv=>by rw [addr_add];exact e7 j v hv) hpos' (by omega) (by rw [hby];omega)
  | some p=>
   rw [hxa,e2,pw]
   have:=run_append_grow c.w t o.type e i z hund hi hzero p 0 0 [] (by simp) (by simp) ⟨b,o',none⟩ ys.length cp us (by rw [hsz];exact e6) (fun j v hv=>by rw [addr_add];exact e7 j v hv)
    (by omega) (by omega) (growslice_fits (by omega) (by rw [hby,Nat.zero_add];omega))
   simpa using this
theorem app_empty (r:Rel c w0 n gs st a) (hK:NextOK P Q q c w0 n gs st a o.dst K) {cl:Call} {x1 x2:Operand} {t e:TypeId} {m:Bool} {k bytes:Nat} (ho:o.op = .call cl) (hb:cl.callee = .builtin .append) (hx:cl.args.toList=[x1,x2]) (ht:cl.argTypes.toList=[t,t])
  (he:ElemT P t e k bytes) {xa:Option Addr} (hxa:a.eval x1 = .slice xa 0 0) (hxa' : xa=none∨∃b o,xa=some ⟨b,o,none⟩) {ys:List (List Dat)} (e2:SrcOK c k (a.eval x2) ys) (hd:ys.length * bytes≤70368744177664)
  (h:WT P Q (q (.ref st.next 0 0 ys.length) (newBlk st (rowBlk m k ys)))):o.wp P a c.w K Qx:=by
 obtain ⟨i,z,zs,hi,hsz,hby,hzero,hzs,hzk⟩:=he.info
 have hund:=he.und
 have hlen:ys.length≤70368744177664:=Nat.le_trans (Nat.le_mul_of_pos_right _ he.pos) hd
 have stay:ys=[]→(∃xb xc,a.eval x2 = .slice xb 0 xc)→o.wp P a c.w K Qx:=by
  rintro rfl ⟨xb,xc,hx2⟩
  obtain ⟨p1,p2⟩:=zero_row r m k hxa'
  refine wp_value (w':=c.w) (run_call_append ho hb hx ht ?_) (hK (c.zero st.next (rowBlk m k [])) _ _ _ rfl rfl p1 rfl p2 h)
  rw [hxa,hx2]
  exact run_app_zero hund hi (by omega)
 rcases e2 with ⟨⟨_,e2⟩,rfl⟩|⟨b,o',cp,us,e2,e3,e4,e5,e6,e7,e8⟩
 ·exact stay rfl ⟨_,0,e2⟩
 ·by_cases hy0:ys=[]
  ·exact stay hy0 ⟨_,cp,by rw [e2,hy0];rfl⟩
  ·have hpos' : 0<ys.length:=by cases ys<;>simp_all
   have hge:=grownCap_ge c.w ys.length 0 e
   obtain ⟨c',pB,pJ,pw,p1,p2⟩:=grown_row r m (e:=e) (z:=z) (cap:=grownCap c.w ys.length 0 e) e4 e5 e8 hzk rfl hge
   refine wp_value (run_call_append ho hb hx ht ?_) (hK c' _ _ _ pB pJ p1 rfl p2 h)
   rcases hxa' with rfl|⟨b1,o1,rfl⟩
   ·rw [hxa,e2,pw]
    exact run_append_nil c.w t o.type e i z hund hi hzero ⟨b,o',none⟩ ys.length cp us (by rw [hsz];exact e6) (fun j v hv=>by rw [addr_add];exact e7 j v hv) hpos' (by omega) (by rw [hby];omega)
   ·rw [hxa,e2,pw]
    have:=run_append_grow c.w t o.type e i z hund hi hzero ⟨b1,o1,none⟩ 0 0 [] (by simp) (by simp) ⟨b,o',none⟩ ys.length cp us (by rw [hsz];exact e6) (fun j v hv=>by rw [addr_add];exact e7 j v hv)
     (by omega) (by omega) (growslice_fits (by omega) (by rw [hby,Nat.zero_add];omega))
    simpa using this
theorem app_ok (r:Rel c w0 n gs st a) (hK:NextOK P Q q c w0 n gs st a o.dst K) {cl:Call} {x1 x2:Operand} {y1 y2:Opd} {t e:TypeId} {m:Bool} {k bytes:Nat} (ho:o.op = .call cl) (hb:cl.callee = .builtin .append) (hx:cl.args.toList=[x1,x2]) (ht:cl.argTypes.toList=[t,t])
  (he:ElemT P t e k bytes) (hc1:compOpd x1=some y1) (hc2:compOpd x2=some y2) (h:WT P Q (step (.app m k bytes y1 y2) st q xx)):o.wp P a c.w K Qx:=by
 obtain ⟨i,z,zs,hi,hsz,hby,hzero,hzs,hzk⟩:=he.info
 have hund:=he.und
 have hpos:=he.pos
 simp only [step] at h
 split at h
 ·rename_i bv yv hv1 hv2
  split at h
  ·rename_i vb ys hys
   replace h:=WT_vtest h
   obtain ⟨hvb,h⟩:=h
   have e2:=src_ok r (opd_rel r hc2 hv2) hys hvb
   have e1:=opd_rel r hc1 hv1
   split at h
   ·-- nil
    simp only [RelV,RelI] at e1
    replace h:=WT_testD h
    obtain ⟨hd,h⟩:=h
    exact app_empty r hK ho hb hx ht he e1 (.inl rfl) e2 (of_decide_eq_true hd) h
   ·-- a slice whose capacity is its length
    rename_i k' xs
    split at h
    ·rename_i hkk
     have hkk:=Nat.eq_of_beq_eq_true hkk
     subst hkk
     simp only [WT] at h
     obtain ⟨h1,h2⟩:=h
     cases hxe:xs.isEmpty with
     | true=>
      have h:=h1 hxe
      obtain ⟨hd,h⟩:=WT_testD (P:=P) (Q:=Q) (b:=decide (ys.length * bytes≤70368744177664)) (T:=.test ys.isEmpty (q (.d (.slice k xs true)) st) (q (.ref st.next 0 0 ys.length) (newBlk st (rowBlk m k ys)))) (by simpa only [WT] using h)
      have hxs:xs=[]:=by simpa using hxe
      subst hxs
      have hbase:RelV c (.d (.slice k [] true)) (a.eval x1):=e1
      simp only [RelV,RelI] at e1
      have e3:∃xa,a.eval x1 = .slice xa 0 0:=by
       rcases e1 with ⟨⟨xa,e1,_⟩,_⟩|⟨bb,oo,cap,f1,f2,f3,f4⟩
       ·exact ⟨xa,e1⟩
       ·have f3:=f3 trivial
        subst f3
        exact ⟨_,f1⟩
      obtain ⟨xa,e3⟩:=e3
      simp only [WT] at h
      obtain ⟨g1,g2⟩:=h
      by_cases hy0:ys=[]
      ·subst hy0
       have e4:∃xb xc,a.eval x2 = .slice xb 0 xc:=by
        rcases e2 with ⟨⟨_,e2⟩,_⟩|⟨b,o',cp,us,e2,_⟩
        ·exact ⟨_,0,e2⟩
        ·exact ⟨_,cp,e2⟩
       obtain ⟨xb,xc,e4⟩:=e4
       refine ok_same r hK hbase (g1 rfl) (run_call_append ho hb hx ht ?_)
       rw [e3,e4]
       exact run_app_zero hund hi (Nat.le_refl _)
      ·exact app_emptyN r hK ho hb hx ht he e3 e2 hy0 (of_decide_eq_true hd) (g2 (by cases ys<;>simp_all))
     | false=>
      have h:=h2 hxe
      have hxn:xs≠[]:=by intro hh;subst hh;simp at hxe
      have hbase:RelV c (.d (.slice k xs true)) (a.eval x1):=e1
      simp only [RelV,RelI] at e1
      rcases e1 with ⟨_,e1⟩|⟨bb,oo,cap,f1,f2,f3,f4⟩
      ·exact (hxn e1).elim
      have f3:=f3 trivial
      obtain ⟨q1,olds,q2,q3,q4,q5⟩:=RelE.flat f4
      obtain ⟨h,hf⟩:=h
      cases hd:decide ((xs.length+ys.length) * bytes≤70368744177664) with
      | false=>exact (hf hd).elim
      | true=>
       obtain ⟨g1,g2⟩:=h hd
       simp only [decide_eq_true_eq] at hd
       have hlen:xs.length+ys.length≤70368744177664:=Nat.le_trans (Nat.le_mul_of_pos_right _ hpos) hd
       rcases e2 with ⟨⟨_,e2⟩,rfl⟩|⟨b,o',cp,us,e2,e3,e4,e5,e6,e7,e8⟩
       ·refine ok_same r hK hbase (g1 rfl) (run_call_append ho hb hx ht ?_)
        rw [f1,e2]
        exact run_app_zero hund hi f2
       ·by_cases hy0:ys=[]
        ·subst hy0
         refine ok_same r hK hbase (g1 rfl) (run_call_append ho hb hx ht ?_)
         rw [f1,e2]
         exact run_app_zero hund hi f2
        ·have hne:ys.isEmpty=false:=by cases ys<;>simp_all
         have hpos' : 0<ys.length:=by cases ys<;>simp_all
         have hge:=grownCap_ge c.w (xs.length+ys.length) cap e
         obtain ⟨c',pB,pJ,pw,p1,p2⟩:=grown_row r m (e:=e) (z:=z) (need:=xs.length+ys.length) (cap:=grownCap c.w (xs.length+ys.length) cap e) (k:=k) (xs:=xs++ys) (us:=olds++us)
          (fun x hx=>by rcases List.mem_append.1 hx with hx|hx;exact q1 x hx;exact e4 x hx) (by rw [List.flatten_append];exact q2.append e5)
          (fun v hv=>by rcases List.mem_append.1 hv with hv|hv;exact q5 v hv;exact e8 v hv) hzk (by simp) hge
         rw [List.length_append] at p2
         refine wp_value (run_call_append ho hb hx ht ?_) (hK c' _ _ _ pB pJ p1 rfl p2 (g2 hne))
         rw [f1,e2,pw]
         have:=run_append_grow c.w t o.type e i z hund hi hzero ⟨bb,oo,none⟩ xs.length cap olds (by rw [hsz];exact q3) (fun j v hv=>by rw [addr_add];exact q4 j v hv) ⟨b,o',none⟩ ys.length cp us (by rw [hsz];exact e6) (fun j v hv=>by rw [addr_add];exact e7 j v hv)
          (by omega) (by omega) (growslice_fits (by omega) (by rw [hby];omega))
         rw [this]
         simp
    ·exact h.elim
   ·rename_i id ver len
    split at h
    ·rename_i k' xs hl
     split at h
     ·rename_i hkk
      have hkk:=Nat.eq_of_beq_eq_true hkk
      subst hkk
      obtain ⟨hd,g⟩:=WT_testD h
      simp only [Bool.and_eq_true,decide_eq_true_eq] at hd
      exact app_arr r hK ho hb hx ht he hl e1 e2 hd.1 hd.2 g
     ·exact h.elim
    ·rename_i k' ver' xs hl
     split at h
     ·rename_i hkk
      have h1:=Nat.eq_of_beq_eq_true hkk
      subst h1
      replace h:=WT_testD h
      obtain ⟨hv,h⟩:=h
      have h2:=Nat.eq_of_beq_eq_true hv
      subst h2
      obtain ⟨hd,g⟩:=WT_testD h
      simp only [decide_eq_true_eq] at hd
      exact app_mt r hK ho hb hx ht he hl e1 e2 hd g
     ·exact h.elim
    ·exact h.elim
   ·exact h.elim
  ·exact h.elim
 ·exact h.elim
theorem optInt_rel (r:Rel c w0 n gs st a) {x:Option Operand} {y:Option Opd} {d i:Int} (hx:(match x with|none=>some none|some z=>(compOpd z).map some)=some y) (h:optInt st d y=some i) :
  (x=none∧y=none∧i=d)∨∃z k,x=some z∧a.eval z = .int k i:=by
 cases x with
 | none=>
  simp at hx;subst hx
  simp [optInt] at h
  exact .inl ⟨rfl,rfl,h.symm⟩
 | some z=>
  simp only [Option.map_eq_some_iff] at hx
  obtain ⟨y',hy',rfl⟩:=hx
  simp only [optInt] at h
  split at h
  ·rename_i k m hv
   simp at h;subst h
   have e:=opd_rel r hy' hv
   simp only [RelV,RelI] at e
   exact .inr ⟨z,k,rfl,e⟩
  ·simp at h
theorem compOpt_eq (x:Option Operand):compOpt x=(match x with|none=>some none|some z=>(compOpd z).map some):=by cases x<;>rfl
theorem run_sliceBounds {isS:Bool} {len cap:Nat} {lo hi:Option Operand} {l h:Int} {w:World} (hlo:(lo=none∧l=0)∨∃z k,lo=some z∧a.eval z = .int k l) (hhi:(hi=none∧h=len)∨∃z k,hi=some z∧a.eval z = .int k h)
  (h0:0≤l) (h1:l≤h) (h2:h≤cap):(Instr.sliceBounds isS len cap (lo.map a.eval) (hi.map a.eval) none).run P w = .ok (l.toNat,h.toNat,cap) w:=by
 have hh0:0≤h:=by omega
 unfold Instr.sliceBounds
 rcases hlo with ⟨rfl,rfl⟩|⟨z,k,rfl,hz⟩
 ·rcases hhi with ⟨rfl,rfl⟩|⟨z',k',rfl,hz'⟩
  ·simp
  ·simp [hz',Instr.sliceBound,asIntOf,hh0,h2]
 ·rcases hhi with ⟨rfl,rfl⟩|⟨z',k',rfl,hz'⟩
  ·simp [hz,Instr.sliceBound,asIntOf,h0,h1]
  ·have:(h.toNat:Int)=h:=by omega
   simp [hz,hz',Instr.sliceBound,asIntOf,h0,h1,hh0,h2,this]
theorem slstr_ok (r:Rel c w0 n gs st a) (hK:NextOK P Q q c w0 n gs st a o.dst K) {t:TypeId} {x:Operand} {lo hi:Option Operand} {y:Opd} {lo' hi' : Option Opd} (ho:o.op = .slice t x lo hi none) (hu:P.underlying t=some .string)
  (hc:compOpd x=some y) (hl:compOpt lo=some lo') (hh:compOpt hi=some hi') (h:WT P Q (step (.slstr y lo' hi') st q xx)):o.wp P a c.w K Qx:=by
 simp only [step] at h
 split at h
 ·rename_i s hv
  have e1:=opd_rel r hc hv
  simp only [RelV,RelI] at e1
  split at h
  ·rename_i l u hl' hu'
   simp only [WT] at h
   cases hd:(decide (0≤l)&&decide (l≤u)&&decide (u≤(s.length:Int))) with
   | false=>exact (h.2 hd).elim
   | true=>
    have g:=h.1 hd
    simp only [Bool.and_eq_true,decide_eq_true_eq] at hd
    rw [compOpt_eq] at hl hh
    have r1:=optInt_rel r hl hl'
    have r2:=optInt_rel r hh hu'
    have hb:=run_sliceBounds (P:=P) (isS:=false) (w:=c.w) (len:=s.length) (cap:=s.length) (a:=a) (r1.imp (fun h=>⟨h.1,h.2.2⟩) id) (r2.imp (fun h=>⟨h.1,h.2.2⟩) id) hd.1.1 hd.1.2 hd.2
    refine ok_same r hK (gv:=.string ⟨((s.take u.toNat).drop l.toNat).toArray⟩) (by simp [RelV,RelI]) g ?_
    have hsz:(⟨s.toArray⟩:ByteArray).size=s.length:=by simp [ByteArray.size]
    have hex:(⟨s.toArray⟩:ByteArray).extract l.toNat u.toNat=⟨((s.take u.toNat).drop l.toNat).toArray⟩:=by
     apply ByteArray.ext
     simp [ByteArray.data_extract,List.drop_take]
    simp only [execOp,ho]
    have:(Instr.sliceAt t (a.eval x) (lo.map a.eval) (hi.map a.eval) (Option.map a.eval none)).run P c.w = .ok (.string ⟨((s.take u.toNat).drop l.toNat).toArray⟩) c.w:=by
     simp only [Instr.sliceAt,Instr.slice,e1,Option.map_none]
     rw [run_bind_ok (run_und hu)]
     simp only []
     rw [run_bind_ok (run_und hu)]
     simp [hsz,hb,hex]
    rw [run_bind_ok this]
    rfl
  ·exact h.elim
 ·exact h.elim
end
end Uw
namespace Uw
open Go Go.RowKit
variable [Glob]
section
variable {P : Program} {Q : MExit → St → Prop} {q : V → St → Tree} {c : Cx} {w0 : World} {n : Nat} {gs : Fr} {st : St} {a : Act} {K : Act → World → Prop} {Qx : Exit → Act → World → Prop} {o : Oper} {xx : MExit → St → Tree}
theorem run_slice_slice {t e:TypeId} {x:Operand} {lo hi:Option Operand} {k len cap b o' : Nat} {l u:Int} {w:World} (ho:o.op = .slice t x lo hi none) (hu:P.underlying t=some (.slice e)) (hk:sizeT P e=some k) (hx:a.eval x = .slice (some ⟨b,o',none⟩) len cap)
  (hlo:(lo=none∧l=0)∨∃z k,lo=some z∧a.eval z = .int k l) (hhi:(hi=none∧u=len)∨∃z k,hi=some z∧a.eval z = .int k u) (h0:0≤l) (h1:l≤u) (h2:u≤cap) :
  (execOp a.eval o).run P w = .ok (.value (.slice (some (if cap=l.toNat then ⟨b,o',none⟩ else ⟨b,o' + l.toNat * k,none⟩)) (u.toNat - l.toNat) (cap - l.toNat))) w:=by
 have hb:=run_sliceBounds (P:=P) (isS:=true) (w:=w) (len:=len) (cap:=cap) (a:=a) hlo hhi h0 h1 h2
 simp only [execOp,ho]
 have:(Instr.sliceAt t (a.eval x) (lo.map a.eval) (hi.map a.eval) (Option.map a.eval none)).run P w = .ok (.slice (some (if cap=l.toNat then ⟨b,o',none⟩ else ⟨b,o' + l.toNat * k,none⟩)) (u.toNat - l.toNat) (cap - l.toNat)) w:=by
  simp only [Instr.sliceAt,Instr.slice,hx,Option.map_none]
  rw [run_bind_ok (run_und hu)]
  simp only []
  rw [run_bind_ok (run_und hu)]
  simp only []
  rw [run_bind_ok hb]
  simp only []
  rw [run_bind_ok (run_size hk)]
  by_cases hc:cap=l.toNat
  ·simp [hc]
  ·simp [hc,addr_add]
 rw [run_bind_ok this]
 rfl
theorem run_slice3 {t e:TypeId} {x hi mx:Operand} {lo:Option Operand} {k len cap:Nat} {ad:Option Addr} {l u:Int} {k1 k2:IntKind} {w:World} (ho:o.op = .slice t x lo (some hi) (some mx)) (hu:P.underlying t=some (.slice e)) (hk:sizeT P e=some k) (hx:a.eval x = .slice ad len cap)
  (hlo:(lo=none∧l=0)∨∃z k,lo=some z∧a.eval z = .int k l) (hhi:a.eval hi = .int k1 u) (hmx:a.eval mx = .int k2 u) (h0:0≤l) (h1:l≤u) (h2:u≤cap) :
  (execOp a.eval o).run P w = .ok (.value (.slice (if u.toNat=l.toNat then ad else ad.map (·.add (l.toNat * k))) (u.toNat - l.toNat) (u.toNat - l.toNat))) w:=by
 have hu0:0≤u:=by omega
 have hut:(u.toNat:Int)=u:=by omega
 have hb:(Instr.sliceBounds true len cap (lo.map a.eval) (some (a.eval hi)) (some (a.eval mx))).run P w = .ok (l.toNat,u.toNat,u.toNat) w:=by
  unfold Instr.sliceBounds
  rcases hlo with ⟨rfl,rfl⟩|⟨z,k,rfl,hz⟩
  ·simp [hhi,hmx,Instr.sliceBound,asIntOf,hu0,h2,hut]
  ·simp [hz,hhi,hmx,Instr.sliceBound,asIntOf,h0,h1,hu0,h2,hut]
 simp only [execOp,ho]
 have:(Instr.sliceAt t (a.eval x) (lo.map a.eval) ((some hi).map a.eval) ((some mx).map a.eval)).run P w = .ok (.slice (if u.toNat=l.toNat then ad else ad.map (·.add (l.toNat * k))) (u.toNat - l.toNat) (u.toNat - l.toNat)) w:=by
  simp only [Instr.sliceAt,Instr.slice,hx,Option.map_some]
  rw [run_bind_ok (run_und hu)]
  simp only []
  rw [run_bind_ok (run_und hu)]
  simp only []
  rw [run_bind_ok hb]
  simp only []
  rw [run_bind_ok (run_size hk)]
  rfl
 rw [run_bind_ok this]
 rfl
theorem run_slice_nil {t e:TypeId} {x:Operand} {lo hi:Option Operand} {k:Nat} {w:World} {xo:Option Addr} (ho:o.op = .slice t x lo hi none) (hu:P.underlying t=some (.slice e)) (hk:sizeT P e=some k) (hx:a.eval x = .slice xo 0 0)
  (hlo:(lo=none∧(0:Int)=0)∨∃z k,lo=some z∧a.eval z = .int k 0) (hhi:(hi=none∧(0:Int)=((0:Nat):Int))∨∃z k,hi=some z∧a.eval z = .int k 0):(execOp a.eval o).run P w = .ok (.value (.slice xo 0 0)) w:=by
 have hb:=run_sliceBounds (P:=P) (isS:=true) (w:=w) (len:=0) (cap:=0) (a:=a) hlo hhi (by omega) (by omega) (by omega)
 simp only [execOp,ho]
 have:(Instr.sliceAt t (a.eval x) (lo.map a.eval) (hi.map a.eval) (Option.map a.eval none)).run P w = .ok (.slice xo 0 0) w:=by
  simp only [Instr.sliceAt,Instr.slice,hx,Option.map_none]
  rw [run_bind_ok (run_und hu)]
  simp only []
  rw [run_bind_ok (run_und hu)]
  simp only []
  rw [run_bind_ok hb]
  simp only []
  rw [run_bind_ok (run_size hk)]
  cases xo<;>simp
 rw [run_bind_ok this]
 rfl
theorem RelE.window {w:World} {J:Nat→Nat→Prop} {b k:Nat}:∀{xs:List (List Dat)} {o:Nat},RelE w J b k o xs→∀m,m≤xs.length→RelE w J b k (o+m * k) (xs.drop m)
 | xs,o,h,0,_=>by simpa using h
 | [],o,h,m+1,hm=>by simp [RelE]
 | x::xs,o,h,m+1,hm=>by
  obtain ⟨h1,h2,h3⟩:=h
  have:=RelE.window h3 m (by simpa using hm)
  rw [show o+k+m * k=o+(m+1) * k by rw [Nat.add_mul];omega] at this
  simpa using this
theorem RelE.take {w:World} {J:Nat→Nat→Prop} {b k:Nat}:∀{xs:List (List Dat)} {o:Nat},RelE w J b k o xs→∀m,RelE w J b k o (xs.take m)
 | xs,o,h,0=>by simp [RelE]
 | [],o,h,m+1=>by simp [RelE]
 | x::xs,o,h,m+1=>by
  obtain ⟨h1,h2,h3⟩:=h
  exact ⟨h1,h2,RelE.take h3 m⟩
theorem sl3_ok (r:Rel c w0 n gs st a) (hK:NextOK P Q q c w0 n gs st a o.dst K) {t e:TypeId} {k:Nat} {x hi mx:Operand} {lo:Option Operand} {y hi' mx' : Opd} {lo' : Option Opd} (ho:o.op = .slice t x lo (some hi) (some mx)) (hu:P.underlying t=some (.slice e)) (hk:sizeT P e=some k)
  (hc:compOpd x=some y) (hl:compOpt lo=some lo') (hh:compOpd hi=some hi') (hm:compOpd mx=some mx') (h:WT P Q (step (.sl3 k y lo' hi' mx') st q xx)):o.wp P a c.w K Qx:=by
 rw [compOpt_eq] at hl
 have int:∀{z:Operand} {z' : Opd} {i:Int},compOpd z=some z'→optInt st 0 (some z')=some i→∃kk,a.eval z = .int kk i:=by
  intro z z' i hz hi
  rcases optInt_rel r (x:=some z) (y:=some z') (d:=0) (by simp [hz]) hi with ⟨h,_⟩|⟨z1,kk,h1,h2⟩
  ·cases h
  ·injection h1 with h1;subst h1;exact ⟨kk,h2⟩
 simp only [step] at h
 split at h
 ·rename_i k' xs z hv
  have e0:=opd_rel r hc hv
  simp only [RelV,RelI] at e0
  split at h
  ·rename_i l u m hkk hl' hu' hm'
   have hkk:=Nat.eq_of_beq_eq_true hkk
   subst hkk
   simp only [WT] at h
   obtain ⟨ht,hf⟩:=h
   cases hd:(decide (0≤l)&&decide (l<u)&&decide (u=m)&&decide (m≤(xs.length:Int))) with
   | true=>
     have g:=ht hd
     simp only [Bool.and_eq_true,decide_eq_true_eq] at hd
     obtain ⟨⟨⟨d1,d2⟩,d3⟩,d4⟩:=hd
     subst d3
     have r1:=(optInt_rel r hl hl').imp (fun h=>(⟨h.1,h.2.2⟩:lo=none∧l=0)) (fun h=>h)
     obtain ⟨k1,r2⟩:=int hh hu'
     obtain ⟨k2,r3⟩:=int hm hm'
     rcases e0 with ⟨⟨x9,e0,_⟩,rfl⟩|⟨b,o',cap,e1,e2,e3,e4⟩
     ·simp only [List.length_nil] at d4;omega
     refine ok_same r hK ?_ g (run_slice3 ho hu hk e1 r1 r2 r3 d1 (by omega) (by omega))
     have hlen:((xs.take u.toNat).drop l.toNat).length=u.toNat - l.toNat:=by simp;omega
     have hE:RelE c.w (Imm c) b k (o' + l.toNat * k) ((xs.take u.toNat).drop l.toNat):=(e4.take u.toNat).window l.toNat (by simp;omega)
     rw [if_neg (by omega)]
     exact .inr ⟨b,o' + l.toNat * k,u.toNat - l.toNat,by rw [hlen];simp [addr_add],by rw [hlen];omega,fun _=>by rw [hlen],hE⟩
   | false=>
     obtain ⟨hd2,g⟩:=WT_testD (P:=P) (Q:=Q) (b:=decide (l=0)&&decide (u=0)&&decide (m=0)) (T:=q (.d (.slice k [] true)) st) (by simpa only [WT] using hf hd)
     simp only [Bool.and_eq_true,decide_eq_true_eq] at hd2
     obtain ⟨⟨rfl,rfl⟩,rfl⟩:=hd2
     have r1:=(optInt_rel r hl hl').imp (fun h=>(⟨h.1,h.2.2⟩:lo=none∧(0:Int)=0)) (fun h=>h)
     obtain ⟨k1,r2⟩:=int hh hu'
     obtain ⟨k2,r3⟩:=int hm hm'
     rcases e0 with ⟨⟨x9,e0,_⟩,_⟩|⟨b,o',cap,e1,e2,e3,e4⟩
     ·exact ok_same r hK (gv:=.slice x9 0 0) (by simp only [RelV,RelI];exact .inl ⟨⟨x9,rfl,fun _=>trivial⟩,trivial⟩) g (run_slice3 ho hu hk e0 r1 r2 r3 (by omega) (by omega) (by omega))
     ·exact ok_same r hK (gv:=.slice (some ⟨b,o',none⟩) 0 0) (by simp only [RelV,RelI];exact .inl ⟨⟨_,rfl,fun _=>trivial⟩,trivial⟩) g (run_slice3 ho hu hk e1 r1 r2 r3 (by omega) (by omega) (by omega))
  ·exact h.elim
 ·rename_i id ver off len hv
  have e1:=opd_rel r hc hv
  simp only [RelV] at e1
  rw [r.heap] at e1
  split at h
  ·rename_i k' xs l u m hlk hl' hu' hm'
   rw [hlk] at e1
   split at h
   ·rename_i hkk
    have hkk:=Nat.eq_of_beq_eq_true hkk
    subst hkk
    obtain ⟨f1,e1⟩:=e1
    obtain ⟨hd,g⟩:=WT_testD h
    simp only [Bool.and_eq_true,decide_eq_true_eq] at hd
    obtain ⟨⟨⟨d1,d2⟩,d3⟩,d4⟩:=hd
    subst d3
    have r1:=(optInt_rel r hl hl').imp (fun h=>(⟨h.1,h.2.2⟩:lo=none∧l=0)) (fun h=>h)
    obtain ⟨k1,r2⟩:=int hh hu'
    obtain ⟨k2,r3⟩:=int hm hm'
    rcases e1 with ⟨f2,f3,f4⟩|⟨b,o',cap,f2,f3,f4,f5⟩
    ·subst f3;omega
    refine ok_same r hK ?_ g (run_slice3 ho hu hk f2 r1 r2 r3 d1 (by omega) (by omega))
    have hlen:((((xs.drop off).take len).take u.toNat).drop l.toNat).length=u.toNat - l.toNat:=by simp;omega
    have hE:RelE c.w (Imm c) b k (o' + l.toNat * k) ((((xs.drop off).take len).take u.toNat).drop l.toNat):=(f4.take u.toNat).window l.toNat (by simp;omega)
    rw [if_neg (by omega)]
    exact .inr ⟨b,o' + l.toNat * k,u.toNat - l.toNat,by rw [hlen];simp [addr_add],by rw [hlen];omega,fun _=>by rw [hlen],hE⟩
   ·exact h.elim
  ·exact h.elim
 ·rename_i hv
  have e0:=opd_rel r hc hv
  simp only [RelV,RelI] at e0
  split at h
  ·rename_i l u m hl' hu' hm'
   obtain ⟨hd,g⟩:=WT_testD h
   simp only [Bool.and_eq_true,decide_eq_true_eq] at hd
   obtain ⟨⟨rfl,rfl⟩,rfl⟩:=hd
   have r1:=(optInt_rel r hl hl').imp (fun h=>(⟨h.1,h.2.2⟩:lo=none∧(0:Int)=0)) (fun h=>h)
   obtain ⟨k1,r2⟩:=int hh hu'
   obtain ⟨k2,r3⟩:=int hm hm'
   exact ok_same r hK (gv:=.slice none 0 0) (by simp [RelV,RelI]) g (run_slice3 ho hu hk e0 r1 r2 r3 (by omega) (by omega) (by omega))
  ·exact h.elim
 ·exact h.elim
theorem sl_ok (r:Rel c w0 n gs st a) (hK:NextOK P Q q c w0 n gs st a o.dst K) {t e:TypeId} {k:Nat} {x:Operand} {lo hi:Option Operand} {y:Opd} {lo' hi' : Option Opd} (ho:o.op = .slice t x lo hi none) (hu:P.underlying t=some (.slice e)) (hk:sizeT P e=some k)
  (hc:compOpd x=some y) (hl:compOpt lo=some lo') (hh:compOpt hi=some hi') (h:WT P Q (step (.sl k y lo' hi') st q xx)):o.wp P a c.w K Qx:=by
 rw [compOpt_eq] at hl hh
 simp only [step] at h
 split at h
 ·rename_i k' xs z hv
  have e0:=opd_rel r hc hv
  simp only [RelV,RelI] at e0
  split at h
  ·rename_i l u hkk hl' hu'
   have hkk:=Nat.eq_of_beq_eq_true hkk
   subst hkk
   simp only [WT] at h
   cases hd:(decide (0≤l)&&decide (l≤u)&&decide (u≤(xs.length:Int))) with
   | false=>exact (h.2 hd).elim
   | true=>
    have g:=h.1 hd
    simp only [Bool.and_eq_true,decide_eq_true_eq] at hd
    have r1:=(optInt_rel r hl hl').imp (fun h=>(⟨h.1,h.2.2⟩:lo=none∧l=0)) (fun h=>h)
    have r2:=(optInt_rel r hh hu').imp (fun h=>(⟨h.1,h.2.2⟩:hi=none∧u=xs.length)) (fun h=>h)
    rcases e0 with ⟨⟨x9,e0,_⟩,rfl⟩|⟨b,o',cap,e1,e2,e3,e4⟩
    ·simp only [List.length_nil] at hd r2
     have hl0:l=0:=by omega
     have hu0:u=0:=by omega
     subst hl0 hu0
     refine ok_same r hK (gv:=.slice x9 0 0) ?_ g (run_slice_nil ho hu hk e0 r1 r2)
     exact .inl ⟨⟨_,rfl,by simp⟩,by simp⟩
    refine ok_same r hK ?_ g (run_slice_slice ho hu hk e1 r1 r2 hd.1.1 hd.1.2 (by omega))
    have hlen:((xs.take u.toNat).drop l.toNat).length=u.toNat - l.toNat:=by simp;omega
    have hE:RelE c.w (Imm c) b k (o' + l.toNat * k) ((xs.take u.toNat).drop l.toNat):=(e4.take u.toNat).window l.toNat (by simp;omega)
    by_cases hcap:cap=l.toNat
    ·rw [if_pos hcap]
     refine .inr ⟨b,o',cap - l.toNat,by rw [hlen],by rw [hlen];omega,by simp,?_⟩
     have:(xs.take u.toNat).drop l.toNat=[]:=List.eq_nil_of_length_eq_zero (by omega)
     rw [this];trivial
    ·rw [if_neg hcap]
     exact .inr ⟨b,o' + l.toNat * k,cap - l.toNat,by rw [hlen],by rw [hlen];omega,by simp,hE⟩
  ·exact h.elim
 ·rename_i id ver off len hv
  have e1:=opd_rel r hc hv
  simp only [RelV] at e1
  rw [r.heap] at e1
  split at h
  ·rename_i k' xs l u hlk hl' hu'
   rw [hlk] at e1
   split at h
   ·rename_i hkk
    have hkk:=Nat.eq_of_beq_eq_true hkk
    subst hkk
    obtain ⟨f1,e1⟩:=e1
    simp only [WT] at h
    cases hd:(decide (0≤l)&&decide (l≤u)&&decide (u≤(len:Int))) with
    | false=>exact (h.2 hd).elim
    | true=>
     have g:=h.1 hd
     simp only [Bool.and_eq_true,decide_eq_true_eq] at hd
     have r1:=(optInt_rel r hl hl').imp (fun h=>(⟨h.1,h.2.2⟩:lo=none∧l=0)) (fun h=>h)
     have r2:=(optInt_rel r hh hu').imp (fun h=>(⟨h.1,h.2.2⟩:hi=none∧u=len)) (fun h=>h)
     have hlk' : look c.heap id=some (.arr k xs):=by rw [r.heap];exact hlk
     rcases e1 with ⟨f2,f3,f4⟩|⟨b,o',cap,f2,f3,f4,f5⟩
     ·subst f3
      have hl0:l=0:=by omega
      have hu0:u=0:=by omega
      subst hl0 hu0
      refine ok_same r hK (gv:=.slice none 0 0) ?_ g (run_slice_nil ho hu hk f2 r1 r2)
      simp only [RelV,hlk']
      exact ⟨by simp;omega,.inl ⟨rfl,by simp,by simpa using f4⟩⟩
     refine ok_same r hK ?_ g (run_slice_slice ho hu hk f2 r1 r2 hd.1.1 hd.1.2 (by omega))
     simp only [RelV,hlk']
     have hul:(u - l).toNat=u.toNat - l.toNat:=by omega
     have hwin:(xs.drop (off+l.toNat)).take (u - l).toNat=(((xs.drop off).take len).take u.toNat).drop l.toNat:=by
      rw [List.drop_take,List.drop_take,List.drop_drop,List.take_take]
      congr 1
      omega
     refine ⟨by omega,?_⟩
     have hE:RelE c.w (Imm c) b k (o' + l.toNat * k) ((((xs.drop off).take len).take u.toNat).drop l.toNat):=(f4.take u.toNat).window l.toNat (by simp;omega)
     by_cases hcap:cap=l.toNat
     ·rw [if_pos hcap]
      refine .inr ⟨b,o',cap - l.toNat,by rw [hul],by omega,?_,?_⟩
      ·rw [hwin]
       have:(((xs.drop off).take len).take u.toNat).drop l.toNat=[]:=List.eq_nil_of_length_eq_zero (by simp;omega)
       rw [this];trivial
      ·intro hend
       obtain ⟨f6,f7⟩:=f5 (by omega)
       refine ⟨by omega,fun hlt=>by omega⟩
     ·rw [if_neg hcap]
      refine .inr ⟨b,o' + l.toNat * k,cap - l.toNat,by rw [hul],by omega,by rw [hwin];exact hE,?_⟩
      intro hend
      obtain ⟨f6,f7⟩:=f5 (by omega)
      refine ⟨by omega,fun hlt=>?_⟩
      obtain ⟨f8,f9⟩:=f7 (by omega)
      exact ⟨f8,by rw [f9,Nat.add_mul]⟩
   ·exact h.elim
  ·rename_i k' ver' xs l u hlk hl' hu'
   rw [hlk] at e1
   split at h
   ·rename_i hkk
    have h1:=Nat.eq_of_beq_eq_true hkk
    subst h1
    replace h:=WT_testD h
    obtain ⟨hv2,h⟩:=h
    have h2:=Nat.eq_of_beq_eq_true hv2
    subst h2
    obtain ⟨f0,_,f⟩:=e1
    obtain ⟨f1,f2⟩:=f rfl
    have hlk' : look c.heap id=some (.mt k ver xs):=by rw [r.heap];exact hlk
    obtain ⟨b3,b4,bb⟩:=r.hrel.blk id _ hlk'
    simp only [WT] at h
    cases hd:(decide (0≤l)&&decide (l≤u)&&decide (u≤(len:Int))) with
    | false=>exact (h.2 hd).elim
    | true=>
     have g:=h.1 hd
     simp only [Bool.and_eq_true,decide_eq_true_eq] at hd
     have r1:=(optInt_rel r hl hl').imp (fun h=>(⟨h.1,h.2.2⟩:lo=none∧l=0)) (fun h=>h)
     have r2:=(optInt_rel r hh hu').imp (fun h=>(⟨h.1,h.2.2⟩:hi=none∧u=len)) (fun h=>h)
     rcases f2 with ⟨f2,f3,f4,f5⟩|⟨b,o',f2,f3⟩
     ·subst f3 f4
      have hl0:l=0:=by omega
      have hu0:u=0:=by omega
      subst hl0 hu0
      refine ok_same r hK (gv:=.slice none 0 0) ?_ g (run_slice_nil ho hu hk f2 r1 r2)
      simp only [RelV,hlk']
      exact ⟨Nat.le_refl _,⟨_,_,_,rfl⟩,fun _=>⟨by simp,.inl ⟨rfl,rfl,rfl,f5⟩⟩⟩
     refine ok_same r hK ?_ g (run_slice_slice ho hu hk f2 r1 r2 hd.1.1 hd.1.2 (by omega))
     simp only [RelV,hlk']
     have hul:(u - l).toNat=u.toNat - l.toNat:=by omega
     refine ⟨Nat.le_refl _,⟨_,_,_,rfl⟩,fun _=>⟨by omega,?_⟩⟩
     by_cases hcap:(c.pl id).cap - off=l.toNat
     ·rw [if_pos hcap]
      exact .inr ⟨b,o',by rw [hul,Nat.sub_sub],fun hlt=>by omega⟩
     ·rw [if_neg hcap]
      refine .inr ⟨b,o' + l.toNat * k,by rw [hul,Nat.sub_sub],fun hlt=>?_⟩
      obtain ⟨f8,f9⟩:=f3 (by omega)
      exact ⟨f8,by rw [f9,Nat.add_mul]⟩
   ·exact h.elim
  ·exact h.elim
 ·rename_i hv
  have e1:=opd_rel r hc hv
  simp only [RelV,RelI] at e1
  split at h
  ·rename_i l u hl' hu'
   simp only [WT] at h
   cases hd:(decide (l=0)&&decide (u=0)) with
   | false=>exact (h.2 hd).elim
   | true=>
    have g:=h.1 hd
    simp only [Bool.and_eq_true,decide_eq_true_eq] at hd
    obtain ⟨rfl,rfl⟩:=hd
    have r1:=(optInt_rel r hl hl').imp (fun h=>(⟨h.1,h.2.2⟩:lo=none∧(0:Int)=0)) id
    have r2:=(optInt_rel r hh hu').imp (fun h=>(⟨h.1,h.2.2⟩:hi=none∧(0:Int)=((0:Nat):Int))) id
    refine ok_same r hK (v:=.d .nil) (gv:=.slice none 0 0) (by simp [RelV,RelI]) g ?_
    have hb:=run_sliceBounds (P:=P) (isS:=true) (w:=c.w) (len:=0) (cap:=0) (a:=a) r1 r2 (by omega) (by omega) (by omega)
    simp only [execOp,ho]
    have:(Instr.sliceAt t (a.eval x) (lo.map a.eval) (hi.map a.eval) (Option.map a.eval none)).run P c.w = .ok (.slice none 0 0) c.w:=by
     simp only [Instr.sliceAt,Instr.slice,e1,Option.map_none]
     rw [run_bind_ok (run_und hu)]
     simp only []
     rw [run_bind_ok (run_und hu)]
     simp only []
     rw [run_bind_ok hb]
     simp only []
     rw [run_bind_ok (run_size hk)]
     simp
    rw [run_bind_ok this]
    rfl
  ·exact h.elim
 ·exact h.elim
theorem setAt_full {α:Type} (cs ds:List α) (h:ds.length=cs.length):setAt cs 0 ds=ds:=by
 apply List.ext_getElem?
 intro j
 rw [setAt_get]
 by_cases hj:j<ds.length
 ·rw [if_pos (by omega)];simp
 ·rw [if_neg (by omega),List.getElem?_eq_none (by omega),List.getElem?_eq_none (by omega)]
theorem bs_fill (r:Rel c w0 n gs st a) {k:Nat}:∀(ps:List (Nat×Operand)) (qs:List (Nat×Opd)) (xs xs' : List (List Dat)) (vs:Array Value),(∀p∈ps.zip qs,p.1.1=p.2.1∧compOpd p.1.2=some p.2.2)→ps.length=qs.length→
  (∀x∈xs,x.length=k)→RelL c.w (Imm c) xs.flatten vs.toList→(∀v∈vs.toList,one v=true)→bsParts st k xs qs=some xs'→
  ∃vs',Instr.fill (fun i=>some (i * k,k)) vs (ps.map fun (i,x)=>(i,a.eval x))=some vs'∧(∀x∈xs',x.length=k)∧xs'.length=xs.length∧RelL c.w (Imm c) xs'.flatten vs'.toList∧∀v∈vs'.toList,one v=true:=by
 intro ps
 induction ps with
 | nil=>
  intro qs xs xs' vs _ hl h1 h2 h3 h
  have:qs=[]:=List.eq_nil_of_length_eq_zero (by simpa using hl.symm)
  subst this
  simp [bsParts] at h;subst h
  exact ⟨vs,rfl,h1,rfl,h2,h3⟩
 | cons p ps ih=>
  intro qs xs xs' vs hz hl h1 h2 h3 h
  cases qs with
  | nil=>simp at hl
  | cons q0 qs=>
   obtain ⟨i,x⟩:=p
   obtain ⟨i',y⟩:=q0
   have hz0:=hz ((i,x),(i',y)) (by simp)
   obtain ⟨hii,hcy⟩:=hz0
   simp only at hii hcy
   subst hii
   simp only [bsParts] at h
   split at h
   ·rename_i v hv
    split at h
    ·rename_i ds hds
     split at h
     ·rename_i hb
      rw [Bool.and_eq_true,Bool.and_eq_true] at hb
      have hb1:=Nat.eq_of_beq_eq_true hb.1.1
      have hb2:i<xs.length:=by simpa using hb.1.2
      have e4:=opd_rel r hcy hv
      have e5:=cells_rel e4 (ev_ne hv)
      rw [← r.heap] at hds
      have e6:=datList_rel hds e5
      have hcs:xs[i]? = some xs[i]:=List.getElem?_eq_getElem hb2
      have hcl:xs[i].length=k:=h1 _ (List.getElem_mem hb2)
      have hset:setAt xs[i] 0 ds=ds:=setAt_full _ _ (by omega)
      have hdl:(a.eval x).cells.size=k:=by have:=e6.length;simp at this;omega
      have hvl:vs.size=xs.length * k:=by have:=h2.length;rw [flatten_len h1] at this;simpa using this
      have hik:(i+1) * k≤xs.length * k:=Nat.mul_le_mul_right _ (by omega)
      have hik' : i * k+k=(i+1) * k:=by rw [Nat.add_mul];omega
      have hfs:=flatten_set h1 (cc:=0) (ds:=ds) hcs (by omega)
      rw [hset,Nat.add_zero] at hfs
      obtain ⟨vs',g1,g2,g3,g4,g5⟩:=ih qs (xs.set i ds) xs' (layAt vs (i * k) (a.eval x).cells.toList) (fun p hp=>hz p (by simp [hp])) (by simpa using hl)
       (fun z hz=>by rcases List.mem_or_eq_of_mem_set hz with hz|hz;exact h1 z hz;rw [hz];exact hb1)
       (by rw [hfs,layAt_list];exact RelL.setAt h2 e6 _)
       (fun u hu=>by
        rw [layAt_list] at hu
        rcases mem_setAt hu with hu|hu
        ·exact h3 u hu
        ·obtain ⟨j,hj⟩:=List.getElem?_of_mem hu
         obtain ⟨z,hz,hzr⟩:=e5.get' j u hj
         exact one_rel hzr (List.all_eq_true.1 hb.2 z (List.mem_of_getElem? hz))) h
      refine ⟨vs',?_,g2,by rw [g3];simp,g4,g5⟩
      simp only [List.map_cons,Instr.fill]
      rw [if_neg (by simp;omega)]
      have e:=foldl_lay (i * k) (a.eval x).cells.toList 0 vs
      simp only [Nat.add_zero] at e
      rw [← Array.foldl_toList,Array.toList_zipIdx,e]
      exact g1
     ·simp at h
    ·simp at h
   ·simp at h
theorem lit_rel (r:Rel c w0 n gs st a) {k:Nat} {xs:List (List Dat)} {vs:Array Value} {e:TypeId} (h1:∀x∈xs,x.length=k) (h2:RelL c.w (Imm c) xs.flatten vs.toList) (h3:∀v∈vs.toList,one v=true) :
  Rel { c with w:=c.w.alloc (.cells vs e) } w0 n gs st a∧RelV { c with w:=c.w.alloc (.cells vs e) } (.d (.slice k xs true)) (.slice (some ⟨c.w.heap.size,0,none⟩) xs.length xs.length):=by
 have hbel:Below c.w.heap.size c.w (c.w.alloc (.cells vs e)):=(Below.refl _ _).alloc (Nat.le_refl _) _
 have hev:=Evo.grow r.hrel hbel
 refine ⟨r.grow hbel,.inr ⟨c.w.heap.size,0,xs.length,rfl,Nat.le_refl _,fun _=>rfl,?_⟩⟩
 refine RelE.of_flat h1 (RelL.keep hev.keeps _ _ h2) ?_
 intro j v hv
 refine ⟨?_,?_,h3 v (List.mem_of_getElem? hv)⟩
 ·have hblk:(c.w.alloc (.cells vs e)).heap[c.w.heap.size]? = some (.cells vs e (0,0)):=by
   show (c.w.heap.push (.cells vs e))[c.w.heap.size]? = _
   simp
  rw [cell_in_block hblk]
  simpa using hv
 ·refine .inr ⟨r.hrel.old_ge (Nat.le_refl _),?_,?_⟩
  ·show c.w.heap.size<(c.w.heap.push (.cells vs e)).size
   simp
  ·intro id blk hl hph hg
   exfalso
   have:=r.hrel.gb_lt hl hph
   simp only at hg
   omega
end
end Uw
namespace Uw
open Go Go.RowKit
variable [Glob]
theorem datOf_one {v:Value} {d:Dat} (h:datOf v=some d):one v=true:=by
 cases v<;>first|rfl|(simp [datOf] at h)
theorem datsOf_one:∀{vs:List Value} {ds:List Dat},datsOf vs=some ds→∀v∈vs,one v=true
 | [],ds,h,v,hv=>by simp at hv
 | u::vs,ds,h,v,hv=>by
  unfold datsOf at h
  split at h
  ·rename_i x l hx hl
   simp at hv
   rcases hv with rfl|hv
   ·exact datOf_one hx
   ·exact datsOf_one hl v hv
  ·simp at h
theorem datsOf_len:∀{vs:List Value} {ds:List Dat},datsOf vs=some ds→ds.length=vs.length
 | [],ds,h=>by simp [datsOf] at h;subst h;rfl
 | u::vs,ds,h=>by
  unfold datsOf at h
  split at h
  ·rename_i x l hx hl
   simp at h;subst h
   simp [datsOf_len hl]
  ·simp at h
theorem range_flat (z:Array Value) (hz:0<z.size):∀m,((Array.range (m * z.size)).map (fun i=>z[i % z.size]!)).toList=(List.replicate m z.toList).flatten:=by
 intro m
 apply List.ext_getElem?
 intro j
 have hlen:((List.replicate m z.toList).flatten).length=m * z.size:=by simp
 by_cases hj:j<m * z.size
 ·have h1:((Array.range (m * z.size)).map (fun i=>z[i % z.size]!)).toList[j]? = some (z[j % z.size]!):=by
   rw [Array.getElem?_toList,Array.getElem?_map]
   simp [hj]
  rw [h1]
  have hmod:=Nat.mod_lt j hz
  have hdiv:j / z.size<m:=by rw [Nat.div_lt_iff_lt_mul hz];exact hj
  have h2:=flatten_at (k:=z.size) (xs:=List.replicate m z.toList) (fun x hx=>by rw [List.eq_of_mem_replicate hx];simp) (i:=j / z.size) (cs:=z.toList) (by rw [List.getElem?_replicate,if_pos hdiv])
  have h3:(List.replicate m z.toList).flatten[j]? = z.toList[j % z.size]?:=by
   have h4:(((List.replicate m z.toList).flatten.drop (j / z.size * z.size)).take z.size)[j % z.size]? = (List.replicate m z.toList).flatten[j]?:=by
    rw [List.getElem?_take,if_pos hmod,List.getElem?_drop,Nat.div_add_mod']
   rw [← h4,h2]
  rw [h3]
  simp [hmod]
 ·rw [List.getElem?_eq_none (by simp;omega),List.getElem?_eq_none (by rw [hlen];omega)]
theorem RelL.replicate {w:World} {J:Nat→Nat→Prop} {zs:List Dat} {vs:List Value} (h:RelL w J zs vs):∀m,RelL w J (List.replicate m zs).flatten (List.replicate m vs).flatten
 | 0=>by simp [RelL]
 | m+1=>by
  rw [List.replicate_succ,List.replicate_succ,List.flatten_cons,List.flatten_cons]
  exact h.append (RelL.replicate h m)
section
variable {P : Program} {Q : MExit → St → Prop} {q : V → St → Tree} {c : Cx} {w0 : World} {n : Nat} {gs : Fr} {st : St} {a : Act} {K : Act → World → Prop} {Qx : Exit → Act → World → Prop} {o : Oper} {xx : MExit → St → Tree}
theorem compBs_ok:∀{ps:List (Nat×Operand)} {qs:List (Nat×Opd)},compBs ps=some qs→ps.length=qs.length∧∀p∈ps.zip qs,p.1.1=p.2.1∧compOpd p.1.2=some p.2.2
 | [],qs,h=>by simp [compBs] at h;subst h;simp
 | (i,x)::ps,qs,h=>by
  unfold compBs at h
  split at h
  ·rename_i y l hy hl
   simp at h;subst h
   obtain ⟨h1,h2⟩:=compBs_ok hl
   refine ⟨by simp [h1],?_⟩
   intro p hp
   simp at hp
   rcases hp with rfl|hp
   ·exact ⟨rfl,hy⟩
   ·exact h2 p (by simpa using hp)
  ·simp at h
theorem bslice_ok (r:Rel c w0 n gs st a) (hK:NextOK P Q q c w0 n gs st a o.dst K) {t e:TypeId} {k len:Nat} {zs:List Dat} {ps:Array (Nat×Operand)} {qs:List (Nat×Opd)} (ho:o.op = .buildSlice t len ps) (hu:P.underlying t=some (.slice e)) (hk:sizeT P e=some k) (hkp:0<k)
  (hz:zeroT P e=some zs) (hzl:zs.length=k) (hle:len * k≤16777216) (hq:compBs ps.toList=some qs) (h:WT P Q (step (.bslice k len zs qs) st q xx)):o.wp P a c.w K Qx:=by
 simp only [step] at h
 split at h
 ·rename_i xs hxs
  obtain ⟨z,hzv,hzd⟩:=run_zero (w:=c.w) hz
  obtain ⟨hl,hzip⟩:=compBs_ok hq
  have hzk:z.cells.size=k:=by have:=datsOf_len hzd;simp at this;omega
  have hzr:=datsOf_rel hzd c.w (Imm c)
  have hflat:=range_flat z.cells (by omega) len
  rw [hzk] at hflat
  obtain ⟨vs',g1,g2,g3,g4,g5⟩:=bs_fill r ps.toList qs (List.replicate len zs) xs ((Array.range (len * k)).map (fun i=>z.cells[i % k]!)) hzip hl
   (fun x hx=>by rw [List.eq_of_mem_replicate hx];exact hzl) (by rw [hflat];exact RelL.replicate hzr len)
   (fun v hv=>by
    rw [hflat] at hv
    obtain ⟨l,hl1,hl2⟩:=List.mem_flatten.1 hv
    rw [List.eq_of_mem_replicate hl1] at hl2
    exact datsOf_one hzd v hl2) hxs
  obtain ⟨p1,p2⟩:=lit_rel r (e:=e) g2 g4 g5
  have hlen:xs.length=len:=by rw [g3];simp
  rw [hlen] at p2
  refine wp_value (w':=c.w.alloc (.cells vs' e)) ?_ (hK { c with w:=c.w.alloc (.cells vs' e) } st _ _ rfl rfl p1 rfl p2 h)
  simp only [execOp,ho]
  have:(Instr.buildSlice t len (ps.map fun (i,x)=>(i,a.eval x))).run P c.w = .ok (.slice (some ⟨c.w.heap.size,0,none⟩) len len) (c.w.alloc (.cells vs' e)):=by
   unfold Instr.buildSlice
   rw [run_bind_ok (run_und hu)]
   simp only []
   rw [run_bind_ok (run_size hk)]
   have hgt:¬len * k>2 ^ 24:=by omega
   simp only [hgt,if_false]
   have hps:(ps.map fun (i,x)=>(i,a.eval x)).toList=ps.toList.map fun (i,x)=>(i,a.eval x):=by simp
   by_cases h0:len * k=0
   ·rw [if_pos h0]
    rw [run_bind_ok (s:=pure _) (x:=(#[]:Array Value)) (w':=c.w) rfl]
    have harr:(Array.range (len * k)).map (fun i=>(#[]:Array Value)[i % (#[]:Array Value).size]!)=(Array.range (len * k)).map (fun i=>z.cells[i % k]!):=by
     apply Array.ext
     ·simp
     ·intro i h1 h2;simp [h0] at h1
    simp only [harr,hps,g1]
    rfl
   ·rw [if_neg h0]
    rw [run_bind_ok hzv]
    rw [run_bind_ok (s:=pure _) (x:=z.cells) (w':=c.w) rfl]
    simp only [hzk,hps,g1]
    rfl
  rw [run_bind_ok this]
  rfl
 ·exact h.elim
theorem idxa_ok (r:Rel c w0 n gs st a) (hK:NextOK P Q q c w0 n gs st a o.dst K) {t e:TypeId} {k m:Nat} {x i:Operand} {y j:Opd} (ho:o.op = .indexAddr t x i) (hu:P.underlying t=some (.array m e)) (hk:sizeT P e=some k)
  (hc1:compOpd x=some y) (hc2:compOpd i=some j) (h:WT P Q (step (.idxa m k y j) st q xx)):o.wp P a c.w K Qx:=by
 have run:∀{b o' : Nat} {ik:IntKind} {d:Int},a.eval x = .pointer (some ⟨b,o',none⟩)→a.eval i = .int ik d→0≤d→d<m→(execOp a.eval o).run P c.w = .ok (.value (.pointer (some ⟨b,o' + d.toNat * k,none⟩))) c.w:=by
  intro b o' ik d hx hi h1 h2
  simp only [execOp,ho]
  have:(Instr.indexAt t (a.eval x) (a.eval i)).run P c.w = .ok (.pointer (some ⟨b,o' + d.toNat * k,none⟩)) c.w:=by
   rw [hx,hi]
   simp [Instr.indexAt,asIntOf,run_und hu,run_size hk,h1,h2,addr_add,Instr.sureAddr]
  rw [run_bind_ok this]
  rfl
 simp only [step] at h
 split at h
 ·rename_i id off ik d hv1 hv2
  obtain ⟨e1,e2⟩:=opd_rel r hc1 hv1
  have e5:=opd_rel r hc2 hv2
  simp only [RelV,RelI] at e5
  simp only [WT] at h
  cases hb:(decide (0≤d)&&decide (d<(m:Int))) with
  | false=>exact (h.2 hb).elim
  | true=>
   have g:=h.1 hb
   simp at hb
   exact ok_same r hK (v:=.ptr id (off+d.toNat * k)) ⟨e1,rfl⟩ g (run e2 e5 hb.1 hb.2)
 ·rename_i cs off ik d hv1 hv2
  obtain ⟨b,o',e1,e2⟩:=opd_rel r hc1 hv1
  have e5:=opd_rel r hc2 hv2
  simp only [RelV,RelI] at e5
  simp only [WT] at h
  cases hb:(decide (0≤d)&&decide (d<(m:Int))) with
  | false=>exact (h.2 hb).elim
  | true=>
   have g:=h.1 hb
   simp at hb
   refine ok_same r hK (v:=.ro cs (off+d.toNat * k)) ⟨b,o',?_,e2⟩ g (run e1 e5 hb.1 hb.2)
   rw [Nat.add_assoc]
 ·exact h.elim
theorem mksl_ok (r:Rel c w0 n gs st a) (hK:NextOK P Q q c w0 n gs st a o.dst K) {t e:TypeId} {k bytes:Nat} {zs:List Dat} {m:Bool} {x1 x2:Operand} {y1 y2:Opd} (ho:o.op = .makeSlice t x1 x2) (he:ElemT P t e k bytes) (hkp:0<k) (hz:zeroT P e=some zs) (hzl:zs.length=k)
  (hc1:compOpd x1=some y1) (hc2:compOpd x2=some y2) (h:WT P Q (step (.mksl m k bytes zs y1 y2) st q xx)):o.wp P a c.w K Qx:=by
 simp only [step] at h
 split at h
 ·rename_i l cp hv1 hv2
  have e1:=opd_rel r hc1 hv1
  have e2:=opd_rel r hc2 hv2
  simp only [RelV,RelI] at e1 e2
  simp only [WT] at h
  cases hd:(decide (0≤l)&&decide (l≤cp)&&decide (cp * (bytes:Int)≤70368744177664)) with
  | false=>exact (h.2 hd).elim
  | true=>
   have g:=h.1 hd
   simp only [Bool.and_eq_true,decide_eq_true_eq] at hd
   obtain ⟨⟨d1,d2⟩,d3⟩:=hd
   obtain ⟨i,z,zs',hi,hsz,hby,hzero,hzs,hzk⟩:=he.info
   have hzs' : zs' = zs:=by
    simp only [zeroT,hi,hzero] at hz
    rw [hzs] at hz;injection hz
   subst hzs'
   have hpos:=he.pos
   have hcb:cp≤70368744177664:=by
    have:cp * 1≤cp * (bytes:Int):=Int.mul_le_mul_of_nonneg_left (by omega) (by omega)
    omega
   have hflat:=range_flat z.cells (by omega) cp.toNat
   rw [hzk] at hflat
   have hzr:=datsOf_rel hzs c.w (Imm c)
   have hmc:(madeCells z.cells (cp.toNat * k)).toList=(List.replicate cp.toNat z.cells.toList).flatten:=by
    rw [← hflat];simp [madeCells,hzk]
   have hll:∀x∈List.replicate cp.toNat z.cells.toList,x.length=k:=fun x hx=>by rw [List.eq_of_mem_replicate hx];simpa using hzk
   obtain ⟨p1,p2⟩:=push_row r m (e:=e) (cap:=cp.toNat) (k:=k) (xs:=List.replicate l.toNat zs') (us:=(List.replicate l.toNat z.cells.toList).flatten) (vs:=madeCells z.cells (cp.toNat * k))
    (fun x hx=>by rw [List.eq_of_mem_replicate hx];exact hzl) (RelL.replicate hzr _)
    (fun v hv=>by
     obtain ⟨l',hl1,hl2⟩:=List.mem_flatten.1 hv
     rw [List.eq_of_mem_replicate hl1] at hl2
     exact datsOf_one hzs v hl2)
    (by have:=congrArg List.length hmc;rw [flatten_len hll] at this;simpa using this)
    (by simp;omega)
    (by
     rw [hmc,List.length_replicate,← flatten_take hll l.toNat (by simp;omega)]
     congr 1
     rw [List.take_replicate]
     congr 1;omega)
   rw [List.length_replicate] at p2
   refine wp_value (w':=c.w.alloc (.cells (madeCells z.cells (cp.toNat * k)) e)) ?_ (hK (c.push st.next cp.toNat (rowBlk m k (List.replicate l.toNat zs')) (.cells (madeCells z.cells (cp.toNat * k)) e)) _ _ _ rfl rfl p1 rfl p2 g)
   simp only [execOp,ho,e1,e2]
   have:=run_make c.w t e i z he.und hi hzero .i64 .i64 l cp d1 d2 (by rw [hby,Int.mul_comm];omega) (by omega)
   rw [hsz] at this
   rw [run_bind_ok this]
   rfl
 ·exact h.elim
end
end Uw
