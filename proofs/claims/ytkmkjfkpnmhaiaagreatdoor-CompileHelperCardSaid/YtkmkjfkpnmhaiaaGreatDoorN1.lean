/- N1: Ua Ub Uc Ud0 Ud Ue Uf Ug Uh Ui Uj Uk Ur Us Ut Uu Uv Uw Ux (merged by merge2.py from the working texts). -/
import Derived.WalkKit
import Derived.StillTail
import Derived.Deep.LoopGhost
import Derived.LoopNIn
import Derived.LoopN
import Derived.OrdersIn
import Derived.RangeFuncCalls
set_option linter.unusedSimpArgs false
set_option linter.unnecessarySimpa false
set_option linter.unusedVariables false
set_option linter.unusedSectionVars false
namespace Uw
open Go
inductive Dat where
 | bool (b:Bool)
 | int (k:IntKind) (n:Int)
 | str (s:List UInt8)
 | nil
 | slice (k:Nat) (xs:List (List Dat)) (z:Bool)
 | agg (cs:List Dat)
 | func (f:FuncId)
 | nilFunc
 | nilIface
 | nilPtr
 | aV
 | iface (t:TypeId) (d:Dat)
 | tuple (ds:List Dat)
 deriving Inhabited
inductive V where
 | d (x:Dat)
 | ptr (id off:Nat)
 | ro (cs:List Dat) (off:Nat)
 | mG (id ver i c:Nat)
 | ref (id ver off len:Nat)
 | agg (cs:List V)
 | func (f:FuncId) (first cap:List V)
 | tuple (vs:List V)
 | hnd (id:Nat)
 | row (id len:Nat)
 | undef
 deriving Inhabited
inductive nB where
 | i (n:Int)
 | s (b:List UInt8)
 deriving DecidableEq,Inhabited
inductive Blk where
 | var (cs:List V)
 | arr (k:Nat) (xs:List (List Dat))
 | mt (k ver:Nat) (xs:List (List Dat))
 | iter (s:List UInt8) (pos:Nat)
 | map (kk:Option IntKind) (es:List (nB×Dat))
 deriving Inhabited
abbrev fp:=List (Nat×V)
abbrev Heap:=List (Nat×Blk)
structure St where
 regs:fp
 heap:Heap
 next:Nat
 defers:List V
 base:Nat
inductive Res where
 | val (v:V)
 | pan (d:Dat)
def look {α:Type}:List (Nat×α)->Nat->Option α
 | [],_=>none
 | (j,a)::r,i=>match Nat.beq j i with|true=>some a|false=>look r i
inductive Opd where
 | t (n:Nat)
 | c (d:Dat)
 deriving Inhabited
inductive MOp where
 | mov (x:Opd)
 | pick (c a b:Opd)
 | box (x:Opd)
 | alloc (zs:List Dat)
 | build (zs:List Dat) (parts:List (Nat×Nat×Opd))
 | load (agg:Bool) (n:Nat) (a:Opd)
 | store (n:Nat) (a x:Opd)
 | fld (off:Nat) (a:Opd)
 | cD (x:Opd)
 | idx (k:Nat) (s i:Opd)
 | idxs (s i:Opd)
 | len (str:Bool) (s:Opd)
 | bin (op:BinOp) (x y:Opd)
 | eqb (neg:Bool) (x y:Opd)
 | not (x:Opd)
 | conv (k:IntKind) (x:Opd)
 | call (f:FuncId) (args:List Opd)
 | ext (x:Opd) (i:Nat)
 | bM (k n:Nat) (zs:List Dat) (parts:List (Nat×Opd))
 | app (m:Bool) (k bytes:Nat) (s x:Opd)
 | Au (m:Bool) (k bytes:Nat) (zs:List Dat) (len cap:Opd)
 | sl (k:Nat) (x:Opd) (lo hi:Option Opd)
 | qp (x:Opd) (lo hi:Option Opd)
 | Et (n k:Nat) (a i:Opd)
 | eqn (neg:Bool) (x:Opd)
 | eqi (neg:Bool) (x:Opd)
 | eqs (neg:Bool) (ks:List Nat) (x y:Opd)
 | sub (f:FuncId) (args:List Opd)
 | kG (x:Opd) (args:List Opd)
 | mH (f:FuncId) (first cap:List Opd)
 | defer (x:Opd) (args:List Opd)
 | panic (x:Opd)
 | Av (t:TypeId) (x:Opd)
 | tas (t:TypeId) (z:Dat) (x:Opd)
 | copy (k:Nat) (d s:Opd)
 | mm (mx:Bool) (x y:Opd)
 | kH (kk:Option IntKind)
 | lkp (ok:Bool) (kk:Option IntKind) (z:Dat) (m x:Opd)
 | nC (kk:Option IntKind) (m x v:Opd)
 | Aw (m:Opd)
 | rng (x:Opd)
 | nxt (x:Opd)
 | Eu (agg:Bool) (n k:Nat) (x i:Opd)
 | b2s (x:Opd)
 | xy (agg:Bool) (n off:Nat) (x:Opd)
 | sl3 (k:Nat) (x:Opd) (lo:Option Opd) (hi mx:Opd)
 | eR (a:Opd)
 | pD (a x:Opd)
 | wH (bytes:Nat) (z:Dat) (len cap:Opd)
 | Jg (k bytes:Nat) (s x:Opd)
 | ux (ok:Bool) (kk:Option IntKind) (z:Dat) (m x:Opd)
 | wI (kk:Option IntKind) (m x v:Opd)
 | vI (n:Nat) (zs:List Dat) (parts:List (Nat×Nat×Opd))
 | yi (k n:Nat) (zs:List Dat) (parts:List (Nat×Opd))
 deriving Inhabited
structure MI where
 g:Option (Nat×Bool)
 dst:Option Nat
 op:MOp
 deriving Inhabited
structure DOp where
 mi:MI
 dep:List Nat
 loud:Bool
 deriving Inhabited
inductive b9 where
 | skip
 | ops (l:List MI)
 | seq (a b:b9)
 | cond (c:Opd) (x y:b9)
 | block (id:Nat) (c:b9)
 | loop (c:b9)
 | exit (id:Nat)
 | ret
 | draw (fuel:Nat) (l:List DOp)
 deriving Inhabited
inductive aH where
 | normal
 | exit (id:Nat)
 | ret
 | panic (d:Dat)
inductive Tree where
 | done (e:aH) (st:St)
 | fail
 | test (b:Bool) (y n:Tree)
 | both (y n:Tree)
 | same (x y:Option V) (t:Tree)
 | elem (xs:List (List Dat)) (i:Nat) (k:List Dat->Tree)
 | byte (s:List UInt8) (i:Nat) (k:UInt8->Tree)
 | val (x:Option Dat) (k:Dat->Tree)
 | blk (x:Option Blk) (k:Blk->Tree)
 | B2 (x:Option V) (k:V->Tree)
 | heq (h:Heap) (k:Heap->Tree)
 | call (f:FuncId) (args:List Dat) (k:Dat->Tree)
 | sub (f:FuncId) (vs:List V) (h:Heap) (next:Nat) (k:Res->Heap->Nat->Tree)
 | code (c:b9) (st:St) (k:aH->St->Tree)
def Opd.ev (st:St):Opd->Option V
 | .t n=>match look st.regs n with
  | some .undef=>none
  | r=>r
 | .c d=>some (.d d)
def V.cells:V->List V
 | .agg cs=>cs
 | .d (.agg ds)=>ds.map V.d
 | v=>[v]
def V.fld (off:Nat):V->Option V
 | .ptr id o=>some (.ptr id (o+off))
 | .ro cs o=>some (.ro cs (o+off))
 | .mG _ _ _ _=>none
 | .d _=>none
 | .ref _ _ _ _=>none
 | .agg _=>none
 | .func _ _ _=>none
 | .tuple _=>none
 | .hnd _=>none
 | .row _ _=>none
 | .undef=>none
def V.TO:V->Bool
 | .ptr _ _=>true
 | .ro _ _=>true
 | .mG _ _ _ _=>false
 | .d _=>false
 | .ref _ _ _ _=>false
 | .agg _=>false
 | .func _ _ _=>false
 | .tuple _=>false
 | .hnd _=>false
 | .row _ _=>false
 | .undef=>false
def V.isAgg:V->Bool
 | .agg _=>true
 | .d (.agg _)=>true
 | _=>false
def uy:V->Bool
 | .agg _ | .tuple _ | .undef=>false
 | .d x=>match x with
  | .agg _ | .tuple _=>false
  | _=>true
 | _=>true
def V.dat (h:Heap):V->Option Dat
 | .d x=>some x
 | .agg cs=>(go cs).map Dat.agg
 | .ref id _ off len=>match look h id with
  | some (.arr k xs)=>some (.slice k ((xs.drop off).take len) false)
  | _=>none
 | .func f [] []=>some (.func f)
 | _=>none
where
 go:List V->Option (List Dat)
  | []=>some []
  | .d x::r=>match go r with|some l=>some (x::l)|none=>none
  | .ref id _ off len::r=>match look h id,go r with
   | some (.arr k xs),some l=>some (.slice k ((xs.drop off).take len) false::l)
   | _,_=>none
  | .func f [] []::r=>match go r with|some l=>some (.func f::l)|none=>none
  | _=>none
def lX (h:Heap):List V->Option (List Dat)
 | []=>some []
 | v::r=>match v.dat h,lX h r with
  | some x,some l=>some (x::l)
  | _,_=>none
def d6 (st:St):List Opd->Option (List V)
 | []=>some []
 | x::r=>match x.ev st,d6 st r with
  | some v,some l=>some (v::l)
  | _,_=>none
def V.fD:Dat->V
 | .agg ds=>.agg (ds.map V.d)
 | .tuple ds=>.tuple (ds.map Q0)
 | x=>.d x
where
 Q0:Dat->V
  | .agg ds=>.agg (ds.map V.d)
  | x=>.d x
def ep (st:St) (b:Blk):St:={ st with heap:=(st.next,b)::st.heap,next:=st.next+1 }
def setAt {α:Type}:List α->Nat->List α->List α
 | l,_,[]=>l
 | l,i,v::vs=>setAt (l.set i v) (i+1) vs
def eD (st:St):List V->List (Nat×Nat×Opd)->Option (List V)
 | cs,[]=>some cs
 | cs,(off,n,x)::r=>match x.ev st with
  | some v=>match Nat.beq v.cells.length n&&Nat.ble (off+n) cs.length with
   | true=>eD st (setAt cs off v.cells) r
   | false=>none
  | none=>none
def qq (agg:Bool) (cs:List V):Option V:=
 match agg,cs with
 | true,cs=>some (.agg cs)
 | false,[v]=>some v
 | false,_=>none
def inR (k:IntKind) (n:Int):Bool:=
 match k with
 | .i8=>decide (-128<=n)&&decide (n<128)
 | .i16=>decide (-32768<=n)&&decide (n<32768)
 | .i32=>decide (-2147483648<=n)&&decide (n<2147483648)
 | .i64=>decide (-9223372036854775808<=n)&&decide (n<9223372036854775808)
 | .u8=>decide (0<=n)&&decide (n<256)
 | .u16=>decide (0<=n)&&decide (n<65536)
 | .u32=>decide (0<=n)&&decide (n<4294967296)
 | .u64=>decide (0<=n)&&decide (n<18446744073709551616)
def fit (k:IntKind) (n:Int) (q:Int->Tree):Tree:=.test (inR k n) (q n) (q (k.wrap n))
def bits (op:BinOp) (k:IntKind) (x y:Int):Option Int:=
 let a:=BitVec.ofInt k.bits x
 let b:=BitVec.ofInt k.bits y
 match op with
 | .and=>some (k.wrap (a&&&b).toNat)
 | .or=>some (k.wrap (a|||b).toNat)
 | .xor=>some (k.wrap (a ^^^ b).toNat)
 | .andNot=>some (k.wrap (a&&&~~~b).toNat)
 | _=>none
def lu (op:BinOp) (k:IntKind) (a b:Int) (q:Dat->Tree):Tree:=
 match op with
 | .add=>fit k (a+b) fun n=>q (.int k n)
 | .sub=>fit k (a - b) fun n=>q (.int k n)
 | .mul=>fit k (a * b) fun n=>q (.int k n)
 | .quo=>.test (decide (b=0)) .fail (fit k (a.tdiv b) fun n=>q (.int k n))
 | .rem=>.test (decide (b=0)) .fail (q (.int k (a.tmod b)))
 | .eql=>q (.bool (decide (a=b)))
 | .neq=>q (.bool (!decide (a=b)))
 | .lss=>q (.bool (decide (a<b)))
 | .leq=>q (.bool (decide (a<=b)))
 | .gtr=>q (.bool (decide (b<a)))
 | .geq=>q (.bool (decide (b<=a)))
 | .shl | .shr=>.fail
 | op=>match bits op k a b with|some n=>q (.int k n)|none=>.fail
def lY (op:BinOp) (s t:List UInt8) (q:Dat->Tree):Tree:=
 match op with
 | .add=>.test (decide (s.length+t.length<4611686018427387904)) (q (.str (s++t))) .fail
 | .eql=>q (.bool (decide (s=t)))
 | .neq=>q (.bool (!decide (s=t)))
 | .lss=>q (.bool (Op.bytesLess s t))
 | .leq=>q (.bool (Op.bytesLess s t||decide (s=t)))
 | .gtr=>q (.bool (!(Op.bytesLess s t||decide (s=t))))
 | .geq=>q (.bool (!Op.bytesLess s t))
 | _=>.fail
def KE (h:Heap) (k:Nat):V->Option (Option Bool×List (List Dat))
 | .d .nil=>some (none,[])
 | .d (.slice k' ys _)=>match Nat.beq k k' with
  | true=>some (none,ys)
  | false=>none
 | .ref id ver off len=>match look h id with
  | some (.arr k' xs)=>match Nat.beq k k' with
   | true=>some (none,(xs.drop off).take len)
   | false=>none
  | some (.mt k' dE xs)=>match Nat.beq k k' with
   | true=>some (some (Nat.beq ver dE),(xs.drop off).take len)
   | false=>none
  | _=>none
 | _=>none
def Ew (b:Option Bool) (t:Tree):Tree:=
 match b with
 | none=>t
 | some b=>.test b t .fail
def cA (m:Bool) (k:Nat) (xs:List (List Dat)):Blk:=
 match m with
 | true=>.mt k 0 xs
 | false=>.arr k xs
def ij (st:St) (k:Nat):List (List Dat)->List (Nat×Opd)->Option (List (List Dat))
 | xs,[]=>some xs
 | xs,(i,x)::r=>match x.ev st with
  | some v=>match lX st.heap v.cells with
   | some ds=>match Nat.beq ds.length k&&Nat.blt i xs.length&&v.cells.all uy with
    | true=>ij st k (xs.set i ds) r
    | false=>none
   | none=>none
  | none=>none
def cu (st:St) (d:Int):Option Opd->Option Int
 | none=>some d
 | some x=>match x.ev st with
  | some (.d (.int _ n))=>some n
  | _=>none
def Q5 (neg b:Bool):Bool:=
 match neg with
 | true=>!b
 | false=>b
def eqD:Nat->Dat->Dat->Option Bool
 | 1,.int k a,.int k' b=>match decide (k=k') with
  | true=>some (decide (a=b))
  | false=>none
 | 0,.bool a,.bool b=>some (a == b)
 | 2,.str a,.str b=>some (decide (a=b))
 | _,_,_=>none
def eqL:List Nat->List V->List V->Option Bool
 | [],[],[]=>some true
 | k::ks,.d x::r,.d y::r'=>match eqD k x y,eqL ks r r' with
  | some a,some b=>some (a&&b)
  | _,_=>none
 | _,_,_=>none
def jf {α:Type}:List α->(List α->Tree)->Tree
 | [],k=>k []
 | x::r,k=>jf r fun r'=>k (x::r')
theorem aj {α:Type}:∀(l:List α) (k:List α->Tree),jf l k=k l
 | [],_=>rfl
 | x::r,k=>by rw [jf,aj r]
def Q6 (st:St) (k:St->Tree):Tree:=
 match st with
 | ⟨a,b,c,d,e⟩=>k ⟨a,b,c,d,e⟩
theorem B5 (st:St) (k:St->Tree):Q6 st k=k st:=rfl
def place {α:Type}:List α->Nat->List α->List α
 | cs,_,[]=>cs
 | [],_,_::_=>[]
 | _::cs,0,v::vs=>v::place cs 0 vs
 | c::cs,n+1,v::vs=>c::place cs n (v::vs)
theorem A2 {α:Type}:∀(vs:List α) (n:Nat),setAt [] n vs=[]
 | [],n=>rfl
 | v::vs,n=>by rw [setAt];exact A2 vs (n+1)
theorem lv {α:Type}:∀(vs:List α) (c:α) (cs:List α) (n:Nat),setAt (c::cs) (n+1) vs=c::setAt cs n vs
 | [],c,cs,n=>rfl
 | v::vs,c,cs,n=>by rw [setAt,setAt,List.set_cons_succ,lv vs]
theorem au {α:Type}:∀(cs:List α) (n:Nat) (vs:List α),place cs n vs=setAt cs n vs
 | cs,n,[]=>by rw [place,setAt]
 | [],n,v::vs=>by rw [place,A2]
 | c::cs,0,v::vs=>by rw [place,au cs 0 vs,setAt,List.set_cons_zero,lv]
 | c::cs,n+1,v::vs=>by rw [place,au cs n (v::vs),lv]
def Ey (st:St):List V->List (Nat×Nat×Opd)->(List V->Tree)->Tree
 | cs,[],k=>k cs
 | cs,(off,n,x)::r,k=>match x.ev st with
  | some v=>match Nat.beq v.cells.length n&&Nat.ble (off+n) cs.length with
   | true=>jf (place cs off v.cells) fun cs'=>Ey st cs' r k
   | false=>.fail
  | none=>.fail
theorem av {st:St}:∀(ps:List (Nat×Nat×Opd)) (cs:List V) (k:List V->Tree),Ey st cs ps k=match eD st cs ps with|some cs=>k cs|none=>.fail
 | [],cs,k=>rfl
 | (off,n,x)::r,cs,k=>by
  simp only [Ey,eD]
  split
  ·split
   ·rw [aj,au,av r]
   ·rfl
  ·rfl
def keyOf:Option IntKind->Dat->Option nB
 | some k,.int k' n=>match decide (k=k') with
  | true=>some (.i n)
  | false=>none
 | none,.str b=>some (.s b)
 | _,_=>none
def aW:List (nB×Dat)->nB->Option Dat
 | [],_=>none
 | (k,v)::r,x=>match decide (x=k) with
  | true=>some v
  | false=>aW r x
def dJ:List (nB×Dat)->nB->Dat->List (nB×Dat)
 | [],x,d=>[(x,d)]
 | (k,v)::r,x,d=>match decide (x=k) with
  | true=>(k,d)::r
  | false=>(k,v)::dJ r x d
def Ez (ok:Bool) (v:V) (b:Bool):V:=
 match ok with
 | true=>.tuple [v,.d (.bool b)]
 | false=>v
noncomputable def bP (s:List UInt8) (pos:Nat):Nat×Nat:=Classical.choose (⟨_,rfl⟩:∃x,x=Utf8.decode ⟨s.toArray⟩ pos)
theorem A3 (s:List UInt8) (pos:Nat):bP s pos=Utf8.decode ⟨s.toArray⟩ pos:=Classical.choose_spec (⟨_,rfl⟩:∃x,x=Utf8.decode ⟨s.toArray⟩ pos)
def bytesOf:List (List Dat)->Option (List UInt8)
 | []=>some []
 | [.int .u8 n]::r=>match bytesOf r with
  | some l=>some (UInt8.ofNat n.toNat::l)
  | none=>none
 | _=>none
def mmI (mx:Bool) (a b:Int):Int:=
 match mx with
 | true=>max a b
 | false=>min a b
noncomputable def step (op:MOp) (st:St) (q:V->St->Tree) (x:aH->St->Tree):Tree:=
 match op with
 | .mov x=>match x.ev st with|some v=>q v st|none=>.fail
 | .pick c a b=>match c.ev st with
  | some (.d (.bool t))=>.test t (match a.ev st with|some v=>q v st|none=>.fail) (match b.ev st with|some v=>q v st|none=>.fail)
  | _=>.fail
 | .box x=>match x.ev st with
  | some v=>jf v.cells fun cs=>q (.ptr st.next 0) (ep st (.var cs))
  | none=>.fail
 | .alloc zs=>jf (zs.map V.d) fun cs=>q (.ptr st.next 0) (ep st (.var cs))
 | .build zs ps=>jf (zs.map V.d) fun zs'=>Ey st zs' ps fun cs=>q (.agg cs) st
 | .load agg n a=>match a.ev st with
  | some (.ptr id off)=>match look st.heap id with
   | some (.var cs)=>match Nat.ble (off+n) cs.length with
    | true=>jf ((cs.drop off).take n) fun cs'=>match qq agg cs' with
     | some v=>q v st
     | none=>.fail
    | false=>.fail
   | _=>.fail
  | some (.ro cs off)=>match Nat.ble (off+n) cs.length with
   | true=>jf (((cs.drop off).take n).map V.d) fun cs'=>match qq agg cs' with
    | some v=>q v st
    | none=>.fail
   | false=>.fail
  | some (.mG id ver i cc)=>match look st.heap id with
   | some (.mt k dE xs)=>.test (Nat.beq ver dE) (.elem xs i fun cs=>match Nat.ble (cc+n) cs.length with
     | true=>jf (((cs.drop cc).take n).map V.d) fun cs'=>match qq agg cs' with
      | some v=>q v st
      | none=>.fail
     | false=>.fail) .fail
   | _=>.fail
  | _=>.fail
 | .store n a x=>match a.ev st,x.ev st with
  | some (.ptr id off),some v=>match look st.heap id with
   | some (.var cs)=>match Nat.beq v.cells.length n&&Nat.ble (off+n) cs.length&&v.cells.all uy with
    | true=>jf (place cs off v.cells) fun cs'=>q .undef { st with heap:=(id,.var cs')::st.heap }
    | false=>.fail
   | _=>.fail
  | some (.mG id ver i cc),some v=>match look st.heap id with
   | some (.mt k dE xs)=>match lX st.heap v.cells with
    | some ds=>.test (Nat.beq ver dE) (.elem xs i fun cs=>match Nat.beq ds.length n&&Nat.ble (cc+n) cs.length&&v.cells.all uy with
     | true=>q .undef { st with heap:=(id,.mt k ver (xs.set i (setAt cs cc ds)))::st.heap }
     | false=>.fail) .fail
    | none=>.fail
   | _=>.fail
  | _,_=>.fail
 | .fld off a=>match a.ev st with
  | some (.mG id ver i cc)=>match look st.heap id with
   | some (.mt _ dE _)=>.test (Nat.beq ver dE) (q (.mG id ver i (cc+off)) st) .fail
   | _=>.fail
  | some v=>match v.fld off with
   | some u=>q u st
   | none=>.fail
  | none=>.fail
 | .cD x=>match x.ev st with
  | some v=>match v.TO with
   | true=>q v st
   | false=>.fail
  | none=>.fail
 | .idx k s i=>match s.ev st,i.ev st with
  | some (.d (.slice k' xs _)),some (.d (.int _ n))=>match Nat.beq k k' with
   | true=>.test (decide (0<=n)&&decide (n<xs.length)) (.elem xs n.toNat fun cs=>q (.ro cs 0) st) .fail
   | false=>.fail
  | some (.ref id ver off len),some (.d (.int _ n))=>match look st.heap id with
   | some (.arr k' xs)=>match Nat.beq k k' with
    | true=>.test (decide (0<=n)&&decide (n<len)) (.elem xs (off+n.toNat) fun cs=>q (.ro cs 0) st) .fail
    | false=>.fail
   | some (.mt k' dE xs)=>match Nat.beq k k' with
    | true=>.test (Nat.beq ver dE) (.test (decide (0<=n)&&decide (n<len)) (q (.mG id ver (off+n.toNat) 0) st) .fail) .fail
    | false=>.fail
   | _=>.fail
  | some (.row id len),some (.d (.int _ n))=>.test (decide (0<=n)&&decide (n<len)) (q (.ptr id (n.toNat * k)) st) .fail
  | _,_=>.fail
 | .idxs s i=>match s.ev st,i.ev st with
  | some (.d (.str s)),some (.d (.int _ n))=>.test (decide (0<=n)&&decide (n<s.length)) (.byte s n.toNat fun b=>q (.d (.int .u8 b.toNat)) st) .fail
  | _,_=>.fail
 | .len false s=>match s.ev st with
  | some (.d (.slice _ xs _))=>q (.d (.int .i64 xs.length)) st
  | some (.d .nil)=>q (.d (.int .i64 0)) st
  | some (.ref id ver _ len)=>match look st.heap id with
   | some (.arr _ _)=>q (.d (.int .i64 len)) st
   | some (.mt _ dE _)=>.test (Nat.beq ver dE) (q (.d (.int .i64 len)) st) .fail
   | _=>.fail
  | some (.row _ len)=>q (.d (.int .i64 len)) st
  | _=>.fail
 | .len true s=>match s.ev st with
  | some (.d (.str s))=>q (.d (.int .i64 s.length)) st
  | _=>.fail
 | .bin op x y=>match x.ev st,y.ev st with
  | some (.d (.int k a)),some (.d (.int k' b))=>match decide (k=k') with
   | true=>lu op k a b fun d=>q (.d d) st
   | false=>.fail
  | some (.d (.str a)),some (.d (.str b))=>lY op a b fun d=>q (.d d) st
  | _,_=>.fail
 | .eqb neg x y=>match x.ev st,y.ev st with
  | some (.d (.bool a)),some (.d (.bool b))=>q (.d (.bool (match neg with|true=>a != b|false=>a == b))) st
  | _,_=>.fail
 | .not x=>match x.ev st with
  | some (.d (.bool b))=>q (.d (.bool (!b))) st
  | _=>.fail
 | .conv k x=>match x.ev st with
  | some (.d (.int _ n))=>fit k n fun n=>q (.d (.int k n)) st
  | _=>.fail
 | .call f xs=>match d6 st xs with
  | some vs=>match lX st.heap vs with
   | some ds=>.call f ds fun r=>q (V.fD r) st
   | none=>.fail
  | none=>.fail
 | .ext x i=>match x.ev st with
  | some (.tuple vs)=>match vs[i]? with|some v=>q v st|none=>.fail
  | _=>.fail
 | .bM k n zs ps=>match ij st k (List.replicate n zs) ps with
  | some xs=>q (.d (.slice k xs true)) st
  | none=>.fail
 | .app m k bytes s x=>match s.ev st,x.ev st with
  | some b,some y=>match KE st.heap k y with
   | some (vb,ys)=>Ew vb (match b with
    | .d .nil=>.test (decide (ys.length * bytes<=70368744177664))
      (q (.ref st.next 0 0 ys.length) (ep st (cA m k ys))) .fail
    | .d (.slice k' xs true)=>match Nat.beq k k' with
     | true=>.test xs.isEmpty
       (.test (decide (ys.length * bytes<=70368744177664)) (.test ys.isEmpty (q b st) (q (.ref st.next 0 0 ys.length) (ep st (cA m k ys)))) .fail)
       (.test (decide ((xs.length+ys.length) * bytes<=70368744177664))
        (.test ys.isEmpty (q b st) (q (.ref st.next 0 0 (xs.length+ys.length)) (ep st (cA m k (xs++ys))))) .fail)
     | false=>.fail
    | .ref id ver 0 len=>match look st.heap id with
     | some (.arr k' xs)=>match Nat.beq k k' with
      | true=>.test (decide (len=xs.length)&&decide ((len+ys.length) * bytes<=70368744177664))
        (q (.ref id 0 0 (len+ys.length)) { st with heap:=(id,.arr k (xs++ys))::st.heap }) .fail
      | false=>.fail
     | some (.mt k' dE xs)=>match Nat.beq k k' with
      | true=>.test (Nat.beq ver dE) (.test (decide ((len+ys.length) * bytes<=70368744177664))
        (q (.ref id (ver+1) 0 (len+ys.length)) { st with heap:=(id,.mt k (ver+1) (xs.take len++ys))::st.heap }) .fail) .fail
      | false=>.fail
     | _=>.fail
    | _=>.fail)
   | none=>.fail
  | _,_=>.fail
 | .Au m k bytes zs l cp=>match l.ev st,cp.ev st with
  | some (.d (.int .i64 n)),some (.d (.int .i64 c))=>.test (decide (0<=n)&&decide (n<=c)&&decide (c * bytes<=70368744177664))
    (q (.ref st.next 0 0 n.toNat) (ep st (cA m k (List.replicate n.toNat zs)))) .fail
  | _,_=>.fail
 | .sl k x lo hi=>match x.ev st with
  | some (.d (.slice k' xs z))=>match Nat.beq k k',cu st 0 lo,cu st xs.length hi with
   | true,some l,some h=>.test (decide (0<=l)&&decide (l<=h)&&decide (h<=xs.length))
     (q (.d (.slice k ((xs.take h.toNat).drop l.toNat) false)) st) .fail
   | _,_,_=>.fail
  | some (.ref id ver off len)=>match look st.heap id,cu st 0 lo,cu st len hi with
   | some (.arr k' xs),some l,some h=>match Nat.beq k k' with
    | true=>.test (decide (0<=l)&&decide (l<=h)&&decide (h<=len)) (q (.ref id ver (off+l.toNat) (h - l).toNat) st) .fail
    | false=>.fail
   | some (.mt k' dE xs),some l,some h=>match Nat.beq k k' with
    | true=>.test (Nat.beq ver dE) (.test (decide (0<=l)&&decide (l<=h)&&decide (h<=len)) (q (.ref id ver (off+l.toNat) (h - l).toNat) st) .fail) .fail
    | false=>.fail
   | _,_,_=>.fail
  | some (.d .nil)=>match cu st 0 lo,cu st 0 hi with
   | some l,some h=>.test (decide (l=0)&&decide (h=0)) (q (.d .nil) st) .fail
   | _,_=>.fail
  | _=>.fail
 | .qp x lo hi=>match x.ev st with
  | some (.d (.str s))=>match cu st 0 lo,cu st s.length hi with
   | some l,some h=>.test (decide (0<=l)&&decide (l<=h)&&decide (h<=s.length)) (q (.d (.str ((s.take h.toNat).drop l.toNat))) st) .fail
   | _,_=>.fail
  | _=>.fail
 | .Et n k a i=>match a.ev st,i.ev st with
  | some (.ptr id off),some (.d (.int _ j))=>.test (decide (0<=j)&&decide (j<n)) (q (.ptr id (off+j.toNat * k)) st) .fail
  | some (.ro cs off),some (.d (.int _ j))=>.test (decide (0<=j)&&decide (j<n)) (q (.ro cs (off+j.toNat * k)) st) .fail
  | _,_=>.fail
 | .eqn neg x=>match x.ev st with
  | some (.d .nil)=>q (.d (.bool (!neg))) st
  | some (.d (.slice _ xs _))=>.test xs.isEmpty (.both (q (.d (.bool (!neg))) st) (q (.d (.bool neg)) st)) (q (.d (.bool neg)) st)
  | _=>.fail
 | .eqi neg x=>match x.ev st with
  | some (.d .nilIface)=>q (.d (.bool (!neg))) st
  | some (.d (.iface _ _))=>q (.d (.bool neg)) st
  | _=>.fail
 | .eqs neg ks x y=>match x.ev st,y.ev st with
  | some v,some u=>match v.isAgg&&u.isAgg,eqL ks v.cells u.cells with
   | true,some b=>q (.d (.bool (Q5 neg b))) st
   | _,_=>.fail
  | _,_=>.fail
 | .sub f xs=>match d6 st xs with
  | some vs=>.sub f vs st.heap st.next fun r h n=>match r with
   | .val v=>q v { st with heap:=h,next:=n }
   | .pan d=>x (.panic d) { st with heap:=h,next:=n }
  | none=>.fail
 | .kG g xs=>match g.ev st,d6 st xs with
  | some (.d (.func f)),some vs=>.sub f vs st.heap st.next fun r h n=>match r with
   | .val v=>q v { st with heap:=h,next:=n }
   | .pan d=>x (.panic d) { st with heap:=h,next:=n }
  | some (.func f fs cs),some vs=>.sub f (fs++(vs++cs)) st.heap st.next fun r h n=>match r with
   | .val v=>q v { st with heap:=h,next:=n }
   | .pan d=>x (.panic d) { st with heap:=h,next:=n }
  | _,_=>.fail
 | .mH f xs ys=>match d6 st xs,d6 st ys with
  | some fs,some cs=>q (.func f fs cs) st
  | _,_=>.fail
 | .defer g xs=>match g.ev st,d6 st xs with
  | some (.d (.func f)),some vs=>q .undef { st with defers:=.func f vs []::st.defers }
  | some (.func f fs cs),some vs=>q .undef { st with defers:=.func f (fs++vs) cs::st.defers }
  | _,_=>.fail
 | .panic y=>match y.ev st with
  | some (.d (.iface t d))=>x (.panic (.iface t d)) st
  | _=>.fail
 | .Av t y=>match y.ev st with
  | some v=>match v.dat st.heap with
   | some d=>q (.d (.iface t d)) st
   | none=>.fail
  | none=>.fail
 | .tas t z y=>match y.ev st with
  | some (.d (.iface t' d))=>match Nat.beq t t' with
   | true=>q (.tuple [V.fD d,.d (.bool true)]) st
   | false=>q (.tuple [V.fD z,.d (.bool false)]) st
  | some (.d .nilIface)=>q (.tuple [V.fD z,.d (.bool false)]) st
  | _=>.fail
 | .copy k d s=>match d.ev st,s.ev st with
  | some (.ref id ver off len),some y=>match look st.heap id,KE st.heap k y with
   | some (.mt k' dE xs),some (vb,ys)=>match Nat.beq k k' with
    | true=>Ew vb (.test (Nat.beq ver dE) (q (.d (.int .i64 ((min len ys.length:Nat):Int)))
      { st with heap:=(id,.mt k ver (setAt xs off (ys.take (min len ys.length))))::st.heap }) .fail)
    | false=>.fail
   | _,_=>.fail
  | _,_=>.fail
 | .mm mx x y=>match x.ev st,y.ev st with
  | some (.d (.int k a)),some (.d (.int k' b))=>match decide (k=k') with
   | true=>q (.d (.int k (mmI mx a b))) st
   | false=>.fail
  | _,_=>.fail
 | .kH kk=>q (.hnd st.next) (ep st (.map kk []))
 | .lkp ok kk z m y=>match m.ev st,y.ev st with
  | some (.hnd id),some (.d x)=>match look st.heap id with
   | some (.map kk' es)=>match decide (kk=kk'),keyOf kk x with
    | true,some key=>.test (aW es key).isSome (.val (aW es key) fun v=>q (Ez ok (V.fD v) true) st) (q (Ez ok (V.fD z) false) st)
    | _,_=>.fail
   | _=>.fail
  | _,_=>.fail
 | .nC kk m y u=>match m.ev st,y.ev st,u.ev st with
  | some (.hnd id),some (.d x),some v=>match look st.heap id,v.dat st.heap with
   | some (.map kk' es),some d=>match decide (kk=kk'),keyOf kk x with
    | true,some key=>q .undef { st with heap:=(id,.map kk (dJ es key d))::st.heap }
    | _,_=>.fail
   | _,_=>.fail
  | _,_,_=>.fail
 | .Aw m=>match m.ev st with
  | some (.hnd id)=>match look st.heap id with
   | some (.map _ es)=>q (.d (.int .i64 es.length)) st
   | _=>.fail
  | _=>.fail
 | .rng x=>match x.ev st with
  | some (.d (.str s))=>q (.hnd st.next) (ep st (.iter s 0))
  | _=>.fail
 | .nxt x=>match x.ev st with
  | some (.hnd id)=>match look st.heap id with
   | some (.iter s pos)=>.test (decide (pos<s.length))
     (q (.tuple [.d (.bool true),.d (.int .i64 pos),.d (.int .i32 (bP s pos).1)]) { st with heap:=(id,.iter s (pos+(bP s pos).2))::st.heap })
     (q (.tuple [.d (.bool false)]) st)
   | _=>.fail
  | _=>.fail
 | .Eu agg n k y i=>match y.ev st,i.ev st with
  | some v,some (.d (.int _ j))=>match v.isAgg with
   | true=>.test (decide (0<=j)&&decide (j<n)) (match Nat.ble (j.toNat * k+k) v.cells.length with
    | true=>jf ((v.cells.drop (j.toNat * k)).take k) fun cs=>match qq agg cs with
     | some u=>q u st
     | none=>.fail
    | false=>.fail) .fail
   | false=>.fail
  | _,_=>.fail
 | .xy agg n off y=>match y.ev st with
  | some v=>match v.isAgg&&Nat.ble (off+n) v.cells.length with
   | true=>jf ((v.cells.drop off).take n) fun cs=>match qq agg cs with
    | some u=>q u st
    | none=>.fail
   | false=>.fail
  | none=>.fail
 | .sl3 k x lo hi mx=>match x.ev st with
  | some (.d (.slice k' xs z))=>match Nat.beq k k',cu st 0 lo,cu st 0 (some hi),cu st 0 (some mx) with
   | true,some l,some h,some m=>.test (decide (0<=l)&&decide (l<h)&&decide (h=m)&&decide (m<=xs.length))
     (q (.d (.slice k ((xs.take h.toNat).drop l.toNat) true)) st) (.test (decide (l=0)&&decide (h=0)&&decide (m=0)) (q (.d (.slice k [] true)) st) .fail)
   | _,_,_,_=>.fail
  | some (.ref id ver off len)=>match look st.heap id,cu st 0 lo,cu st 0 (some hi),cu st 0 (some mx) with
   | some (.arr k' xs),some l,some h,some m=>match Nat.beq k k' with
    | true=>.test (decide (0<=l)&&decide (l<h)&&decide (h=m)&&decide (m<=len))
      (q (.d (.slice k ((((xs.drop off).take len).take h.toNat).drop l.toNat) true)) st) .fail
    | false=>.fail
   | _,_,_,_=>.fail
  | some (.d .nil)=>match cu st 0 lo,cu st 0 (some hi),cu st 0 (some mx) with
   | some l,some h,some m=>.test (decide (l=0)&&decide (h=0)&&decide (m=0)) (q (.d .nil) st) .fail
   | _,_,_=>.fail
  | _=>.fail
 | .b2s x=>match x.ev st with
  | some (.d (.slice k ys _))=>match Nat.beq k 1,bytesOf ys with
   | true,some bs=>q (.d (.str bs)) st
   | _,_=>.fail
  | _=>.fail
 | .eR a=>match a.ev st with
  | some (.ptr id off)=>match look st.heap id with
   | some (.var cs)=>.B2 (cs[off]?) fun v=>q v st
   | _=>.fail
  | some (.ro cs off)=>match Nat.ble (off+1) cs.length with
   | true=>jf (((cs.drop off).take 1).map V.d) fun cs'=>match qq false cs' with
    | some v=>q v st
    | none=>.fail
   | false=>.fail
  | _=>.fail
 | .pD a x=>match a.ev st,x.ev st with
  | some (.ptr id off),some v=>match look st.heap id,uy v with
   | some (.var cs),true=>.test (decide (off<cs.length)) (q .undef { st with heap:=(id,.var (cs.set off v))::st.heap }) .fail
   | _,_=>.fail
  | _,_=>.fail
 | .wH bytes z l cp=>match l.ev st,cp.ev st with
  | some (.d (.int .i64 n)),some (.d (.int .i64 c))=>.test (decide (n=c)&&decide (0<=n)&&decide (c * bytes<=70368744177664))
    (.test (decide (0<n)) (q (.row st.next n.toNat) (ep st (.var (List.replicate n.toNat (.d z))))) (q (.d (.slice 1 [] true)) st)) .fail
  | _,_=>.fail
 | .Jg k bytes s x=>match s.ev st,x.ev st with
  | some b,some y=>match KE st.heap k y with
   | some (none,ys)=>match b with
    | .d .nil=>.test (decide (ys.length * bytes<=70368744177664))
      (q (.ref st.next 0 0 ys.length) (ep st (.arr k ys))) .fail
    | .d (.slice k' xs true)=>match Nat.beq k k' with
     | true=>.test xs.isEmpty
       (.test (decide (ys.length * bytes<=70368744177664)) (.test ys.isEmpty (q b st) (q (.ref st.next 0 0 ys.length) (ep st (.arr k ys)))) .fail)
       .fail
     | false=>.fail
    | .ref id ver 0 len=>.blk (look st.heap id) fun b=>match b with
     | .arr k' xs=>match Nat.beq k k' with
      | true=>.test (decide (len=xs.length)&&decide ((len+ys.length) * bytes<=70368744177664))
        (.heq ((id,.arr k (xs++ys))::st.heap) fun h=>q (.ref id 0 0 (len+ys.length)) { st with heap:=h }) .fail
      | false=>.fail
     | _=>.fail
    | _=>.fail
   | _=>.fail
  | _,_=>.fail
 | .ux ok kk z m y=>match m.ev st,y.ev st with
  | some (.hnd id),some (.d x)=>.blk (look st.heap id) fun b=>match b with
   | .map kk' es=>match decide (kk=kk'),keyOf kk x with
    | true,some key=>.test (aW es key).isSome (.val (aW es key) fun v=>q (Ez ok (V.fD v) true) st) (q (Ez ok (V.fD z) false) st)
    | _,_=>.fail
   | _=>.fail
  | _,_=>.fail
 | .wI kk m y u=>match m.ev st,y.ev st,u.ev st with
  | some (.hnd id),some (.d x),some v=>match v.dat st.heap with
   | some d=>.blk (look st.heap id) fun b=>match b with
    | .map kk' es=>match decide (kk=kk'),keyOf kk x with
     | true,some key=>.heq ((id,.map kk (dJ es key d))::st.heap) fun h=>q .undef { st with heap:=h }
     | _,_=>.fail
    | _=>.fail
   | _=>.fail
  | _,_,_=>.fail
 | .yi k n zs ps=>match ij st k (List.replicate n zs) ps with
  | some xs=>q (.ref st.next 0 0 n) (ep st (cA true k xs))
  | none=>.fail
 | .vI n zs ps=>jf (zs.map V.d) fun cs=>Ey st cs ps fun cs=>q (.row st.next n) (ep st (.var cs))
def put (dst:Option Nat) (v:V) (st:St):St:=
 match dst with
 | some d=>{ st with regs:=(d,v)::st.regs }
 | none=>st
def fV (dst:Option Nat) (mode:Option (Nat×Bool×Bool)):Option (Nat×Bool×Bool):=
 match dst,mode with
 | some d,some (t,want,hold)=>match Nat.beq d t with
  | true=>none
  | false=>some (t,want,hold)
 | _,m=>m
def decided (mode:Option (Nat×Bool×Bool)) (t:Nat) (want:Bool):Option Bool:=
 match mode with
 | some (t',want',hold)=>match Nat.beq t t'&&(want == want') with
  | true=>some hold
  | false=>none
 | none=>none
abbrev Mode:=Option (Nat×Bool×Bool)
abbrev Go0:=St->(aH->St->Tree)->Tree
abbrev Go1:=Mode->Go0
def Q7:Go1:=fun _ st q=>q .normal st
noncomputable def NG (i:MI) (r:List MI) (ih:Go1):Go1:=fun mode st q=>Q6 st fun st=>match i.g with
  | none=>step i.op st (fun v st'=>ih none (put i.dst v st') q) q
  | some (t,want)=>
   match decided mode t want with
   | some true=>step i.op st (fun v st'=>ih (fV i.dst mode) (put i.dst v st') q) q
   | some false=>ih (fV i.dst mode) (put i.dst (.tuple []) st) q
   | none=>match look st.regs t with
    | some (.d (.bool b))=>.test (b == want)
      (step i.op (put (some t) (.d (.bool want)) st) (fun v st'=>ih (fV i.dst (some (t,want,true))) (put i.dst v st') q) q)
      (ih (fV i.dst (some (t,want,false))) (put i.dst (.tuple []) (put (some t) (.d (.bool (!want))) st)) q)
    | some (.tuple [])=>ih (fV i.dst mode) (put i.dst (.tuple []) st) q
    | _=>.fail
noncomputable def dc (l:List MI):Go1:=List.rec (motive:=fun _=>Go1) Q7 NG l
theorem qP (mode:Mode) (st:St) (q:aH->St->Tree):dc [] mode st q=q .normal st:=rfl
theorem pG (i:MI) (r:List MI) (mode:Mode) (st:St) (q:aH->St->Tree):dc (i::r) mode st q=Q6 st fun st=>match i.g with
  | none=>step i.op st (fun v st'=>dc r none (put i.dst v st') q) q
  | some (t,want)=>
   match decided mode t want with
   | some true=>step i.op st (fun v st'=>dc r (fV i.dst mode) (put i.dst v st') q) q
   | some false=>dc r (fV i.dst mode) (put i.dst (.tuple []) st) q
   | none=>match look st.regs t with
    | some (.d (.bool b))=>.test (b == want)
      (step i.op (put (some t) (.d (.bool want)) st) (fun v st'=>dc r (fV i.dst (some (t,want,true))) (put i.dst v st') q) q)
      (dc r (fV i.dst (some (t,want,false))) (put i.dst (.tuple []) (put (some t) (.d (.bool (!want))) st)) q)
    | some (.tuple [])=>dc r (fV i.dst mode) (put i.dst (.tuple []) st) q
    | _=>.fail:=rfl
def Q8:Go0:=fun st q=>q .normal st
noncomputable def TP (l:List MI):Go0:=fun st q=>dc l none st q
def TQ (_ _:b9) (a b:Go0):Go0:=fun st q=>a st fun e st'=>match e with
  | .normal=>b st' q
  | e=>q e st'
def Q9 (c:Opd) (_ _:b9) (x y:Go0):Go0:=fun st q=>match c.ev st with
  | some (.d (.bool b))=>.test b (x st q) (y st q)
  | _=>.fail
def NH (id:Nat) (_:b9) (c:Go0):Go0:=fun st q=>c st fun e st'=>match e with
  | .exit j=>match Nat.beq j id with
   | true=>q .normal st'
   | false=>q (.exit j) st'
  | e=>q e st'
def Rb (c:b9) (_:Go0):Go0:=fun st q=>.code (.loop c) st q
def Rf (id:Nat):Go0:=fun st q=>q (.exit id) st
def TR:Go0:=fun st q=>q .ret st
def Rh (m:Nat) (l:List DOp):Go0:=fun st q=>.code (.draw m l) st q
noncomputable def exec (m:b9):Go0:=b9.rec (motive:=fun _=>Go0) Q8 TP TQ Q9 NH Rb Rf TR Rh m
theorem oP (st:St) (q:aH->St->Tree):exec .skip st q=q .normal st:=rfl
theorem qQ (l:List MI) (st:St) (q:aH->St->Tree):exec (.ops l) st q=dc l none st q:=rfl
theorem qS (a b:b9) (st:St) (q:aH->St->Tree):exec (.seq a b) st q=exec a st fun e st'=>match e with
  | .normal=>exec b st' q
  | e=>q e st':=rfl
theorem oQ (c:Opd) (x y:b9) (st:St) (q:aH->St->Tree):exec (.cond c x y) st q=match c.ev st with
  | some (.d (.bool b))=>.test b (exec x st q) (exec y st q)
  | _=>.fail:=rfl
theorem mI (id:Nat) (c:b9) (st:St) (q:aH->St->Tree):exec (.block id c) st q=exec c st fun e st'=>match e with
  | .exit j=>match Nat.beq j id with
   | true=>q .normal st'
   | false=>q (.exit j) st'
  | e=>q e st':=rfl
theorem oR (c:b9) (st:St) (q:aH->St->Tree):exec (.loop c) st q = .code (.loop c) st q:=rfl
theorem oS (id:Nat) (st:St) (q:aH->St->Tree):exec (.exit id) st q=q (.exit id) st:=rfl
theorem qT (st:St) (q:aH->St->Tree):exec .ret st q=q .ret st:=rfl
theorem oU (m:Nat) (l:List DOp) (st:St) (q:aH->St->Tree):exec (.draw m l) st q = .code (.draw m l) st q:=rfl
def qU:List Nat->Nat->Bool
 | [],_=>false
 | x::r,i=>match Nat.beq x i with
  | true=>true
  | false=>qU r i
def pI:List Nat->List Nat->List Nat->Bool
 | [],_,_=>true
 | j::r,E,D=>(qU E j||qU D j)&&pI r E D
def waited (all:List DOp):List Nat->Nat->Bool
 | [],_=>false
 | n::D,i=>(match all[n]? with|some o=>qU o.dep i|none=>false)||waited all D i
noncomputable def ov (all:List DOp) (D:List Nat):List DOp->Nat->List Nat->St->(List Nat->St->Tree)->Tree
 | [],_,E,st,q=>q E st
 | o::r,i,E,st,q=>match o.loud with
  | true=>ov all D r (i+1) E st q
  | false=>match qU E i with
   | true=>match waited all D i with
    | true=>ov all D r (i+1) E st q
    | false=>dc [o.mi] none st fun e st'=>match e with
     | .normal=>.same (match o.mi.dst with|some d=>look st'.regs d|none=>none) (match o.mi.dst with|some d=>look st.regs d|none=>none) (ov all D r (i+1) E st q)
     | _=>.fail
   | false=>match pI o.dep E D with
    | true=>dc [o.mi] none st fun e st'=>match e with
     | .normal=>ov all D r (i+1) (i::E) st' q
     | _=>.fail
    | false=>ov all D r (i+1) E st q
def Ig:List Tree->Tree
 | []=>.fail
 | [t]=>t
 | t::r=>.both t (Ig r)
def wJ (E D:List Nat):List DOp->Nat->(Nat->DOp->Tree)->List Tree
 | [],_,_=>[]
 | o::r,i,f=>match o.loud&&!qU D i&&pI o.dep E D with
  | true=>f i o::wJ E D r (i+1) f
  | false=>wJ E D r (i+1) f
def yj (D:List Nat):List DOp->Nat->Bool
 | [],_=>true
 | o::r,i=>(!o.loud||qU D i)&&yj D r (i+1)
def Ih (t:Nat) (o:DOp):Bool:=
 match o.mi.dst with
 | some d=>Nat.beq d t
 | none=>false
def keepR (all:List DOp):fp->fp
 | []=>[]
 | (t,v)::r=>match all.any (Ih t) with
  | true=>keepR all r
  | false=>(t,v)::keepR all r
noncomputable def yk (all:List DOp) (r0:fp):Nat->List Nat->List Nat->St->(aH->St->Tree)->Tree
 | 0,E,D,st,q=>ov all D all 0 E st fun E' st'=>match yj D all 0 with
  | true=>q .normal st'
  | false=>.fail
 | m+1,E,D,st,q=>ov all D all 0 E st fun E' st'=>Ig (wJ E' D all 0 fun i o=>dc [o.mi] none st' fun e B6=>match e with
  | .normal=>yk all r0 m E' (i::D) B6 q
  | e=>q e { B6 with regs:=r0 })
end Uw
namespace Uw
open Go
structure Pol where
 mt:Bool
 sub:List Nat
def yl:Value->Option Dat
 | .bool b=>some (.bool b)
 | .int k n=>some (.int k n)
 | .string s=>some (.str s.data.toList)
 | .slice none 0 0=>some .nil
 | .nilFunc=>some .nilFunc
 | .nilIface=>some .nilIface
 | .pointer none=>some .nilPtr
 | .map none=>some .aV
 | .func (.func f) x y=>match x.toList,y.toList with
  | [],[]=>some (.func f)
  | _,_=>none
 | _=>none
def jD:List Value->Option (List Dat)
 | []=>some []
 | v::r=>match yl v,jD r with
  | some x,some l=>some (x::l)
  | _,_=>none
def al:Operand->Option Opd
 | .tmp t=>some (.t t)
 | .const v=>(yl v).map Opd.c
 | .func f=>some (.c (.func f))
 | .global _=>none
def dQ:List Operand->Option (List Opd)
 | []=>some []
 | x::r=>match al x,dQ r with
  | some v,some l=>some (v::l)
  | _,_=>none
def jE:Option Operand->Option (Option Opd)
 | none=>some none
 | some z=>(al z).map some
def mJ:List (Nat×Operand)->Option (List (Nat×Opd))
 | []=>some []
 | (i,x)::r=>match al x,mJ r with
  | some y,some l=>some ((i,y)::l)
  | _,_=>none
def jF (P:Program) (t:TypeId):Option Bool:=
 match P.underlying t with
 | some (.struct _)|some (.array _ _)=>some true
 | some _=>some false
 | none=>none
def sizeT (P:Program) (t:TypeId):Option Nat:=(P.info? t).map (·.size)
def lH (P:Program) (t:TypeId):Option (List Dat):=
 match P.info? t with
 | some i=>match i.zero with
  | some v=>jD v.cells.toList
  | none=>none
 | none=>none
def A4 (P:Program) (t:TypeId):Option (TypeId×Nat×Nat×List Dat):=
 match P.underlying t with
 | some (.slice e)=>match P.info? e with
  | some i=>match i.zero with
   | some z=>match jD z.cells.toList with
    | some zs=>match Nat.beq z.cells.size i.size&&Nat.beq zs.length i.size&&Nat.blt 0 i.size&&Nat.blt 0 i.bytes with
     | true=>some (e,i.size,i.bytes,zs)
     | false=>none
    | none=>none
   | none=>none
  | none=>none
 | _=>none
def A5 (P:Program) (t:TypeId):Bool:=
 match P.underlying t with
 | some (.interface _)=>false
 | some _=>true
 | none=>false
def zeroV (P:Program) (t:TypeId):Option Dat:=
 match P.info? t with
 | some i=>match i.zero with
  | some (.agg vs)=>(jD vs.toList).map Dat.agg
  | some v=>yl v
  | none=>none
 | none=>none
def Ax (P:Program) (t:TypeId):Option (TypeId×TypeId×Option IntKind×Dat):=
 match P.underlying t with
 | some (.map k e)=>match P.underlying k,zeroV P e with
  | some (.int ik),some z=>some (k,e,some ik,z)
  | some .string,some z=>some (k,e,none,z)
  | _,_=>none
 | _=>none
def Ri (P:Program) (t:TypeId):Bool:=
 match P.underlying t with
 | some (.slice _)|some (.map _ _)=>true
 | _=>false
def Pol.fam (pol:Pol):Bool:=pol.sub.contains 1000000
def ym (P:Program) (t:TypeId):Option Nat:=
 match P.underlying t with
 | some .bool=>some 0
 | some (.int _)=>some 1
 | some .string=>some 2
 | _=>none
def EA (P:Program):Nat->List Field->Option (List Nat)
 | _,[]=>some []
 | i,f::r=>match ym P f.type,Nat.beq f.offset i&&(f.name != "_"),EA P (i+1) r with
  | some k,true,some l=>some (k::l)
  | _,_,_=>none
def KF (P:Program) (t:TypeId):Option (List Nat):=
 match P.underlying t with
 | some (.struct fs)=>match !P.stoodInHeld t&&!P.eqGuardType P.depth t with
  | true=>EA P 0 fs.toList
  | false=>none
 | _=>none
def G2:Operand->Bool
 | .const (.slice none _ _)=>true
 | _=>false
def G3:Operand->Bool
 | .const .nilIface=>true
 | _=>false
def G4 (P:Program) (t:TypeId):Option (Nat->Option (Nat×Nat)):=
 match P.info? t,P.underlying t with
 | some _,some (.array _ e)=>match P.info? e with
  | some ie=>some fun i=>some (i * ie.size,ie.size)
  | none=>none
 | some _,some (.struct fs)=>match fs.toList.mapM (fun f=>(P.info? f.type).map fun i=>(f.offset,i.size)) with
  | some places=>some fun i=>places.toArray[i]?
  | none=>none
 | _,_=>none
def jr (place:Nat->Option (Nat×Nat)):List (Nat×Operand)->Option (List (Nat×Nat×Opd))
 | []=>some []
 | (i,x)::r=>match place i,al x,jr place r with
  | some (off,n),some o,some l=>some ((off,n,o)::l)
  | _,_,_=>none
def B7 (P:Program) (pol:Pol) (o:Oper):Option MOp:=
 match o.op with
 | .move x | .assign x=>(al x).map MOp.mov
 | .pick c a b=>match al c,al a,al b with
  | some c,some a,some b=>some (.pick c a b)
  | _,_,_=>none
 | .box _ x=>(al x).map MOp.box
 | .alloc t=>(lH P t).map MOp.alloc
 | .build t ps=>match G4 P t,lH P t with
  | some place,some zs=>(jr place ps.toList).map (MOp.build zs)
  | _,_=>none
 | .load t a=>match jF P t,sizeT P t,al a with
  | some g,some n,some a=>match pol.fam&&Ri P t&&!g&&Nat.beq n 1 with
   | true=>some (.eR a)
   | false=>some (.load g n a)
  | _,_,_=>none
 | .store t a x=>match sizeT P t,al a,al x with
  | some n,some a,some x=>match pol.fam&&Ri P t&&Nat.beq n 1 with
   | true=>some (.pD a x)
   | false=>some (.store n a x)
  | _,_,_=>none
 | .nilCheck x=>(al x).map MOp.cD
 | .fieldAddr s x f=>match P.underlying s with
  | some (.struct fs)=>match fs[f]? with
   | some fd=>match sizeT P fd.type,al x with
    | some (_+1),some x=>some (.fld fd.offset x)
    | _,_=>none
   | none=>none
  | _=>none
 | .indexAddr t x i=>match P.underlying t with
  | some (.slice e)=>match sizeT P e,al x,al i with
   | some k,some x,some i=>some (.idx k x i)
   | _,_,_=>none
  | some (.array m e)=>match sizeT P e,al x,al i with
   | some k,some x,some i=>some (.Et m k x i)
   | _,_,_=>none
  | _=>none
 | .index t x i=>match P.underlying t with
  | some .string=>match al x,al i with
   | some x,some i=>some (.idxs x i)
   | _,_=>none
  | some (.array m e)=>match jF P e,sizeT P e,al x,al i with
   | some g,some k,some x,some i=>some (.Eu g m k x i)
   | _,_,_,_=>none
  | _=>none
 | .makeMap t none=>match Ax P t with
  | some (_,_,kk,_)=>some (.kH kk)
  | none=>none
 | .lookup t x i ok=>match Ax P t,al x,al i with
  | some (_,_,kk,z),some x,some i=>match pol.fam with
   | true=>some (.ux ok kk z x i)
   | false=>some (.lkp ok kk z x i)
  | _,_,_=>none
 | .mapUpdate t m x v=>match Ax P t,al m,al x,al v with
  | some (_,_,kk,_),some m,some x,some v=>match pol.fam with
   | true=>some (.wI kk m x v)
   | false=>some (.nC kk m x v)
  | _,_,_,_=>none
 | .insert t m x v=>match Ax P t,al m,al x,al v with
  | some (_,_,kk,_),some m,some x,some v=>some (.nC kk m x v)
  | _,_,_,_=>none
 | .range t x=>match P.underlying t with
  | some .string=>(al x).map MOp.rng
  | _=>none
 | .next x true=>(al x).map MOp.nxt
 | .binOp op t x0 y0 _=>match P.underlying t,al x0,al y0 with
  | some .bool,some x,some y=>match op with
   | .eql=>some (.eqb false x y)
   | .neq=>some (.eqb true x y)
   | _=>none
  | some (.int _),some x,some y=>some (.bin op x y)
  | some .string,some x,some y=>some (.bin op x y)
  | some (.slice _),some x,some _=>match G2 y0,op with
   | true,.eql=>some (.eqn false x)
   | true,.neq=>some (.eqn true x)
   | _,_=>none
  | some (.interface _),some x,some _=>match G3 y0,op with
   | true,.eql=>some (.eqi false x)
   | true,.neq=>some (.eqi true x)
   | _,_=>none
  | some (.struct _),some x,some y=>match KF P t,op with
   | some n,.eql=>some (.eqs false n x y)
   | some n,.neq=>some (.eqs true n x y)
   | _,_=>none
  | _,_,_=>none
 | .unOp .not _ x=>(al x).map MOp.not
 | .convert s d x=>match P.underlying s,P.underlying d with
  | some (.int _),some (.int k)=>(al x).map (MOp.conv k)
  | some (.slice e),some .string=>match P.underlying e with
   | some (.int .u8)=>(al x).map MOp.b2s
   | _=>none
  | _,_=>none
 | .call c=>match c.callee with
  | .builtin .len=>match c.args.toList,c.argTypes.toList with
   | [x],[t]=>match P.underlying t with
    | some (.slice _)=>(al x).map (MOp.len false)
    | some .string=>(al x).map (MOp.len true)
    | some (.map _ _)=>(al x).map MOp.Aw
    | _=>none
   | _,_=>none
  | .builtin .min=>match c.args.toList with
   | [x,y]=>match al x,al y with
    | some x,some y=>some (.mm false x y)
    | _,_=>none
   | _=>none
  | .builtin .max=>match c.args.toList with
   | [x,y]=>match al x,al y with
    | some x,some y=>some (.mm true x y)
    | _,_=>none
   | _=>none
  | .builtin .append=>match c.args.toList,c.argTypes.toList with
   | [x,y],[t,t']=>match Nat.beq t t',A4 P t,al x,al y with
    | true,some (_,k,bytes,_),some x,some y=>match pol.fam with
     | true=>some (.Jg k bytes x y)
     | false=>some (.app pol.mt k bytes x y)
    | _,_,_,_=>none
   | _,_=>none
  | .value (.func f)=>match P.funcs[f]? with
   | some fn=>match fn.body.isSome&&!(fn.name == "runtime.NumGoroutine") with
    | true=>match pol.sub.contains f with
     | true=>(dQ c.args.toList).map (MOp.sub f)
     | false=>(dQ c.args.toList).map (MOp.call f)
    | false=>none
   | none=>none
  | .value (.tmp t)=>(dQ c.args.toList).map (MOp.kG (.t t))
  | .builtin .copy=>match c.args.toList,c.argTypes.toList with
   | [x,y],[t,t']=>match A4 P t,P.underlying t',al x,al y with
    | some (_,k,_,_),some (.slice _),some x,some y=>some (.copy k x y)
    | _,_,_,_=>none
   | _,_=>none
  | _=>none
 | .makeFunc (.func f) fs cs=>match dQ fs.toList,dQ cs.toList with
  | some fs,some cs=>some (.mH f fs cs)
  | _,_=>none
 | .defer c=>match c.callee with
  | .value (.tmp t)=>(dQ c.args.toList).map (MOp.defer (.t t))
  | .value (.func f)=>(dQ c.args.toList).map (MOp.defer (.c (.func f)))
  | _=>none
 | .panic x=>(al x).map MOp.panic
 | .makeInterface t x=>match A5 P t,al x with
  | true,some x=>some (.Av t x)
  | _,_=>none
 | .typeAssert x _ t true=>match A5 P t,zeroV P t,al x with
  | true,some z,some x=>some (.tas t z x)
  | _,_,_=>none
 | .extract x i=>(al x).map (MOp.ext · i)
 | .field s x f=>match P.underlying s with
  | some (.struct fs)=>match fs[f]? with
   | some fd=>match jF P fd.type,sizeT P fd.type,al x with
    | some g,some k,some x=>some (.xy g k fd.offset x)
    | _,_,_=>none
   | none=>none
  | _=>none
 | .buildSlice t len ps=>match A4 P t,mJ ps.toList with
  | some (_,k,_,zs),some qs=>match Nat.ble (len * k) 16777216 with
   | true=>match pol.sub.contains 1000001&&Nat.blt 0 len with
    | true=>some (.vI len ((List.replicate len zs).flatten) (qs.map fun y=>(y.1 * k,k,y.2)))
    | false=>match pol.sub.contains 1000002 with
     | true=>some (.yi k len zs qs)
     | false=>some (.bM k len zs qs)
   | false=>none
  | _,_=>none
 | .makeSlice t l cp=>match A4 P t,al l,al cp with
  | some (e,k,bytes,zs),some l,some cp=>match pol.fam&&Ri P e&&Nat.beq k 1,zs with
   | true,[z]=>some (.wH bytes z l cp)
   | _,_=>some (.Au pol.mt k bytes zs l cp)
  | _,_,_=>none
 | .slice t x lo hi none=>match P.underlying t with
  | some .string=>match al x,jE lo,jE hi with
   | some x,some lo,some hi=>some (.qp x lo hi)
   | _,_,_=>none
  | some (.slice e)=>match sizeT P e,al x,jE lo,jE hi with
   | some k,some x,some lo,some hi=>some (.sl k x lo hi)
   | _,_,_,_=>none
  | _=>none
 | .slice t x lo (some hi) (some mx)=>match P.underlying t with
  | some (.slice e)=>match sizeT P e,al x,jE lo,al hi,al mx with
   | some k,some x,some lo,some hi,some mx=>some (.sl3 k x lo hi mx)
   | _,_,_,_,_=>none
  | _=>none
 | _=>none
def yn (ops:List Oper):Option (Nat×Bool)->Option (Option (Nat×Bool))
 | none=>some none
 | some (j,b)=>match ops[j]? with
  | some o=>match o.dst with
   | some d=>some (some (d,b))
   | none=>none
  | none=>none
def dN (P:Program) (n:Nat) (pol:Pol) (ops:List Oper):List Oper->Option (List MI)
 | []=>some []
 | o::r=>match yn ops o.guard,B7 P pol o,dN P n pol ops r,(match o.dst with|some d=>Nat.blt d n|none=>true) with
  | some g,some m,some l,true=>some (⟨g,o.dst,m⟩::l)
  | _,_,_,_=>none
def il:MOp->Bool
 | .mov _ | .pick _ _ _ | .build _ _ | .load _ _ _ | .fld _ _ | .cD _ | .idx _ _ _ | .idxs _ _ | .len _ _ | .bin _ _ _ | .eqb _ _ _ | .not _ | .conv _ _ | .call _ _ | .ext _ _ | .bM _ _ _ _ | .sl _ _ _ _ | .qp _ _ _ | .Et _ _ _ _ | .eqs _ _ _ _ | .mm _ _ _ | .lkp _ _ _ _ _ | .Aw _ | .Eu _ _ _ _ _ | .b2s _ | .xy _ _ _ _ | .sl3 _ _ _ _ _ | .eR _ | .ux _ _ _ _ _=>true
 | _=>false
def Opd.tmps:Opd->List Nat
 | .t n=>[n]
 | .c _=>[]
def iT:List Opd->List Nat
 | []=>[]
 | x::r=>x.tmps++iT r
def mr:List (Nat×Nat×Opd)->List Nat
 | []=>[]
 | (_,_,x)::r=>x.tmps++mr r
def vJ:List (Nat×Opd)->List Nat
 | []=>[]
 | (_,x)::r=>x.tmps++vJ r
def kB:Option Opd->List Nat
 | none=>[]
 | some x=>x.tmps
def MOp.tmps:MOp->List Nat
 | .mov x=>x.tmps
 | .pick c a b=>c.tmps++a.tmps++b.tmps
 | .build _ ps=>mr ps
 | .load _ _ a=>a.tmps
 | .fld _ a=>a.tmps
 | .cD x=>x.tmps
 | .idx _ s i=>s.tmps++i.tmps
 | .idxs s i=>s.tmps++i.tmps
 | .len _ s=>s.tmps
 | .bin _ x y=>x.tmps++y.tmps
 | .eqb _ x y=>x.tmps++y.tmps
 | .not x=>x.tmps
 | .conv _ x=>x.tmps
 | .call _ xs=>iT xs
 | .ext x _=>x.tmps
 | .bM _ _ _ ps=>vJ ps
 | .sl _ x lo hi=>x.tmps++kB lo++kB hi
 | .qp x lo hi=>x.tmps++kB lo++kB hi
 | .Et _ _ x i=>x.tmps++i.tmps
 | .eqs _ _ x y=>x.tmps++y.tmps
 | .eqn _ x=>x.tmps
 | .eqi _ x=>x.tmps
 | .sub _ xs=>iT xs
 | .kG x xs=>x.tmps++iT xs
 | .mH _ xs ys=>iT xs++iT ys
 | .defer x xs=>x.tmps++iT xs
 | .panic x=>x.tmps
 | .Av _ x=>x.tmps
 | .tas _ _ x=>x.tmps
 | .copy _ x y=>x.tmps++y.tmps
 | .box x=>x.tmps
 | .alloc _=>[]
 | .store _ a x=>a.tmps++x.tmps
 | .app _ _ _ s x=>s.tmps++x.tmps
 | .Au _ _ _ _ l c=>l.tmps++c.tmps
 | .mm _ x y=>x.tmps++y.tmps
 | .kH _=>[]
 | .lkp _ _ _ m x=>m.tmps++x.tmps
 | .nC _ m x v=>m.tmps++x.tmps++v.tmps
 | .Aw m=>m.tmps
 | .rng x=>x.tmps
 | .nxt x=>x.tmps
 | .Eu _ _ _ x i=>x.tmps++i.tmps
 | .b2s x=>x.tmps
 | .xy _ _ _ x=>x.tmps
 | .sl3 _ x lo hi mx=>x.tmps++kB lo++hi.tmps++mx.tmps
 | .eR a=>a.tmps
 | .pD a x=>a.tmps++x.tmps
 | .wH _ _ l c=>l.tmps++c.tmps
 | .Jg _ _ s x=>s.tmps++x.tmps
 | .ux _ _ _ m x=>m.tmps++x.tmps
 | .wI _ m x v=>m.tmps++x.tmps++v.tmps
 | .vI _ _ ps=>mr ps
 | .yi _ _ _ ps=>vJ ps
def MI.tmps (i:MI):List Nat:=(match i.g with|some (t,_)=>[t]|none=>[])++i.op.tmps
def canon (h m:Nat):Array Bool:=((List.range m).map fun i=>decide (i<h)).toArray
def QG (ops:List Oper) (mi:List MI) (i j:Nat):Bool:=
 match mi[i]?,mi[j]? with
 | some a,some b=>match b.dst with
  | some t=>(a.dst != some t)&&(!(a.tmps.contains t)||(if j<i then Region.waitsFor .any ops.toArray i j else Region.waitsFor .any ops.toArray j i))
  | none=>true
 | _,_=>false
def EB (ops:List Oper) (mi:List MI) (h:Nat):Bool:=
 decide (h<=ops.length)&&((mi.take h).all fun i=>il i.op)&&
 ((List.range h).all fun i=>match ops[i]? with|some o=>o.after.all (fun e=>!Region.binds .any e||decide (e.on<i))|none=>false)&&
 ((List.range h).all fun i=>(List.range h).all fun j=>(i == j)||QG ops mi i j)&&
 (h == ops.length||(Region.sinkB .any ops.toArray h&&Region.chainB .any ops.toArray h))&&
 Region.seqB .any ops.toArray (ops.length - h) h (canon h ops.length)
def headLen (l:List MI):Nat:=(l.takeWhile fun i=>il i.op).length
def B8 (o:Oper):List Nat:=(o.after.toList.filter fun e=>Region.binds .any e).map (·.on)
def ed:List Oper->List MI->List DOp
 | o::r,i::r'=>⟨i,B8 o,!il i.op⟩::ed r r'
 | _,_=>[]
def QH (mi:List DOp) (i j:Nat):Bool:=
 match mi[i]?,mi[j]? with
 | some a,some b=>match b.mi.dst with
  | some t=>(a.mi.dst != some t)&&(!(a.mi.tmps.contains t)||(decide (j<i)&&qU a.dep j))
  | none=>true
 | _,_=>false
def KG (o:DOp):Bool:=
 match o.mi.dst with
 | some t=>!(o.mi.tmps.contains t)
 | none=>true
def yo (l:List DOp):Bool:=
 ((List.range l.length).all fun i=>match l[i]? with|some o=>o.dep.all (fun j=>decide (j<i))&&(!o.loud||o.mi.g.isNone)&&KG o|none=>false)&&
 ((List.range l.length).all fun i=>(List.range l.length).all fun j=>(i == j)||QH l i j)
def vK:List DOp->Nat
 | []=>0
 | o::r=>match o.loud with
  | true=>vK r+1
  | false=>vK r
def comp (P:Program) (n:Nat) (pol:Pol):Code->Option b9
 | .skip=>some .skip
 | .region _ ops false=>(dN P n pol ops.toList ops.toList).map b9.ops
 | .region _ ops true=>match P.follows .mixedOrders,dN P n pol ops.toList ops.toList with
  | true,some l=>match EB ops.toList l (headLen l) with
   | true=>some (.ops l)
   | false=>match yo (ed ops.toList l) with
    | true=>some (.draw (vK (ed ops.toList l)) (ed ops.toList l))
    | false=>none
  | _,_=>none
 | .seq a b=>match comp P n pol a,comp P n pol b with
  | some a,some b=>some (.seq a b)
  | _,_=>none
 | .cond c x y=>match al c,comp P n pol x,comp P n pol y with
  | some c,some x,some y=>some (.cond c x y)
  | _,_,_=>none
 | .block id c=>(comp P n pol c).map (b9.block id)
 | .loop c=>(comp P n pol c).map b9.loop
 | .exit id=>some (.exit id)
 | .ret=>some .ret
 | _=>none
end Uw
namespace Uw
open Go Go.RowKit
def one:Value->Bool
 | .agg _ | .tuple _=>false
 | _=>true
mutual
def aE (w:World) (J:Nat->Nat->Prop):Dat->Value->Prop
 | .bool b,v=>v = .bool b
 | .int k n,v=>v = .int k n
 | .str s,v=>v = .string ⟨s.toArray⟩
 | .nil,v=>v = .slice none 0 0
 | .slice k xs z,v=>((∃x:Option Addr,v = .slice x 0 0/\(z=true->True))/\xs=[])\/∃b o cap,v = .slice (some ⟨b,o,none⟩) xs.length cap/\xs.length<=cap/\(z=true->cap=xs.length)/\cB w J b k o xs
 | .agg cs,v=>∃vs:List Value,v = .agg vs.toArray/\aX w J cs vs
 | .func f,v=>v = .func (.func f) #[] #[]
 | .nilFunc,v=>v = .nilFunc
 | .nilIface,v=>v = .nilIface
 | .nilPtr,v=>v = .pointer none
 | .aV,v=>v = .map none
 | .iface t d,v=>∃u,v = .iface t u/\aE w J d u
 | .tuple ds,v=>∃vs:List Value,v = .tuple vs.toArray/\aX w J ds vs
def aX (w:World) (J:Nat->Nat->Prop):List Dat->List Value->Prop
 | [],vs=>vs=[]
 | d::ds,vs=>∃v vs',vs=v::vs'/\aE w J d v/\aX w J ds vs'
def dO (w:World) (J:Nat->Nat->Prop) (b:Nat):Nat->List Dat->Prop
 | _,[]=>True
 | o,d::ds=>(∃v,w.cell? ⟨b,o,none⟩=some v/\J b o/\one v=true/\aE w J d v)/\dO w J b (o+1) ds
def cB (w:World) (J:Nat->Nat->Prop) (b k:Nat):Nat->List (List Dat)->Prop
 | _,[]=>True
 | o,c::cs=>c.length=k/\dO w J b o c/\cB w J b k (o+k) cs
end
def Keeps (w w' : World) (J J' : Nat->Nat->Prop):Prop:=∀b o,J b o->J' b o/\w'.cell? ⟨b,o,none⟩=w.cell? ⟨b,o,none⟩
mutual
theorem aE.keep {w w' : World} {J J' : Nat->Nat->Prop} (h:Keeps w w' J J'):∀(d:Dat) (v:Value),aE w J d v->aE w' J' d v
 | .bool b,v,r=>r
 | .int k n,v,r=>r
 | .str s,v,r=>r
 | .nil,v,r=>r
 | .slice k xs z,v,.inl r=>.inl r
 | .slice k xs z,v,.inr ⟨b,o,cap,h1,h2,h3,h4⟩=>.inr ⟨b,o,cap,h1,h2,h3,cB.keep h b k o xs h4⟩
 | .agg cs,v,⟨vs,h1,h2⟩=>⟨vs,h1,aX.keep h cs vs h2⟩
 | .func f,v,r=>r
 | .nilFunc,v,r=>r
 | .nilIface,v,r=>r
 | .nilPtr,v,r=>r
 | .aV,v,r=>r
 | .iface t d,v,⟨u,h1,h2⟩=>⟨u,h1,aE.keep h d u h2⟩
 | .tuple ds,v,⟨vs,h1,h2⟩=>⟨vs,h1,aX.keep h ds vs h2⟩
theorem aX.keep {w w' : World} {J J' : Nat->Nat->Prop} (h:Keeps w w' J J'):∀(ds:List Dat) (vs:List Value),aX w J ds vs->aX w' J' ds vs
 | [],vs,r=>r
 | d::ds,vs,⟨v,vs',h1,h2,h3⟩=>⟨v,vs',h1,aE.keep h d v h2,aX.keep h ds vs' h3⟩
theorem dO.keep {w w' : World} {J J' : Nat->Nat->Prop} (h:Keeps w w' J J') (b:Nat):∀(o:Nat) (ds:List Dat),dO w J b o ds->dO w' J' b o ds
 | o,[],_=>trivial
 | o,d::ds,⟨⟨v,h1,h2,h5,h3⟩,h4⟩=>⟨⟨v,by rw [(h b o h2).2];exact h1,(h b o h2).1,h5,aE.keep h d v h3⟩,dO.keep h b (o+1) ds h4⟩
theorem cB.keep {w w' : World} {J J' : Nat->Nat->Prop} (h:Keeps w w' J J') (b k:Nat):∀(o:Nat) (cs:List (List Dat)),cB w J b k o cs->cB w' J' b k o cs
 | o,[],_=>trivial
 | o,c::cs,⟨h1,h2,h3⟩=>⟨h1,dO.keep h b o c h2,cB.keep h b k (o+k) cs h3⟩
end
class Glob where
 n:Nat
 p:World->Prop
 ok:∀(w w' : World),(∀k,k<n->w'.heap[k]? = w.heap[k]?)->p w->p w'
def GOk [Glob] (B:Nat) (w:World):Prop:=B<=w.heap.size/\Glob.n<=B/\Glob.p w
variable [Glob]
def Ret (P:Program) (f:FuncId) (args:List Dat) (r:Dat):Prop:=
 ∀(w:World) (J:Nat->Nat->Prop) (vs:List Value),GOk w.heap.size w->aX w J args vs->
  Calls P f vs.toArray w fun e w'=>∃v,e = .returned v/\aE w' (fun b o=>J b o\/(w.heap.size<=b/\b<w'.heap.size)) r v/\Below w.heap.size w w'
structure Pl where
 gb:Nat
 cap:Nat
def Ph (p:Pl):Blk->Prop
 | .arr _ _=>0<p.cap
 | .mt _ _ _=>0<p.cap
 | _=>True
structure JX where
 J:Nat->Nat->Prop
 X:Nat->Prop
structure Cx where
 B:Nat
 J0:JX
 heap:Heap
 pl:Nat->Pl
 w:World
def Cx.Old (c:Cx) (b:Nat):Prop:=b<c.B\/c.J0.X b
def Imm (c:Cx) (b o:Nat):Prop:=
 (c.Old b/\c.J0.J b o)\/(¬c.Old b/\b<c.w.heap.size/\∀id blk,look c.heap id=some blk->Ph (c.pl id) blk->(c.pl id).gb=b->∃k xs,blk = .arr k xs/\o<xs.length * k)
def ki (c:Cx) (id ver off len:Nat) (gv:Value):Option Blk->Prop
 | some (.arr k xs)=>off+len<=xs.length/\((gv = .slice none 0 0/\len=0/\(off=xs.length->(c.pl id).cap=off))\/∃b o cap,gv = .slice (some ⟨b,o,none⟩) len cap/\len<=cap/\cB c.w (Imm c) b k o ((xs.drop off).take len)/\
   (off+len=xs.length->cap=(c.pl id).cap - off/\(off<(c.pl id).cap->b=(c.pl id).gb/\o=off * k)))
 | some (.mt k dE xs)=>ver<=dE/\(∃x l cp,gv = .slice x l cp)/\(ver=dE->off+len<=xs.length/\((gv = .slice none 0 0/\len=0/\off=0/\(c.pl id).cap=0)\/∃b o,gv = .slice (some ⟨b,o,none⟩) len ((c.pl id).cap - off)/\(off<(c.pl id).cap->b=(c.pl id).gb/\o=off * k)))
 | _=>False
def jG (c:Cx) (id ver i cc:Nat) (gv:Value):Option Blk->Prop
 | some (.mt k dE xs)=>ver<=dE/\(∃x,gv = .pointer x)/\(ver=dE->i<xs.length/\gv = .pointer (some ⟨(c.pl id).gb,i * k+cc,none⟩))
 | _=>False
def jH:Option IntKind->nB->Value->Prop
 | some k,.i n,v=>v = .int k n
 | none,.s b,v=>v = .string ⟨b.toArray⟩
 | _,_,_=>False
def oV (w:World) (J:Nat->Nat->Prop) (kk:Option IntKind):List (nB×Dat)->List MapEntry->Prop
 | [],ms=>ms=[]
 | (k,d)::r,ms=>∃m ms',ms=m::ms'/\jH kk k m.key/\aE w J d m.val/\oV w J kk r ms'
theorem oV.keep {w w' : World} {J J' : Nat->Nat->Prop} (h:Keeps w w' J J') {kk:Option IntKind}:∀(es:List (nB×Dat)) (ms:List MapEntry),oV w J kk es ms->oV w' J' kk es ms
 | [],ms,r=>r
 | (k,d)::es,ms,⟨m,ms',h1,h2,h3,h4⟩=>⟨m,ms',h1,h2,aE.keep h d _ h3,oV.keep h es ms' h4⟩
def fq (c:Cx) (id:Nat) (gv:Value):Option Blk->Prop
 | some (.map _ _)=>gv = .map (some (c.pl id).gb)
 | some (.iter _ _)=>gv = .pointer (some ⟨(c.pl id).gb,0,none⟩)
 | _=>False
mutual
def aA (c:Cx):V->Value->Prop
 | .d x,v=>aE c.w (Imm c) x v
 | .ptr id off,v=>(∃cs,look c.heap id=some (.var cs))/\v = .pointer (some ⟨(c.pl id).gb,off,none⟩)
 | .ro cs off,v=>∃b o,v = .pointer (some ⟨b,o+off,none⟩)/\dO c.w (Imm c) b o cs
 | .mG id ver i cc,v=>jG c id ver i cc v (look c.heap id)
 | .ref id ver off len,v=>ki c id ver off len v (look c.heap id)
 | .agg cs,v=>∃vs:List Value,v = .agg vs.toArray/\ax c cs vs
 | .func f first cap,v=>∃fs vs:List Value,v = .func (.func f) fs.toArray vs.toArray/\ax c first fs/\ax c cap vs
 | .tuple ds,v=>∃vs:List Value,v = .tuple vs.toArray/\ax c ds vs
 | .hnd id,v=>fq c id v (look c.heap id)
 | .row id len,v=>(∃cs,look c.heap id=some (.var cs))/\v = .slice (some ⟨(c.pl id).gb,0,none⟩) len len/\0<len
 | .undef,_=>True
def ax (c:Cx):List V->List Value->Prop
 | [],vs=>vs=[]
 | d::ds,vs=>∃v vs',vs=v::vs'/\aA c d v/\ax c ds vs'
end
def cJ (c:Cx) (id:Nat):Blk->Prop
 | .var cs=>∃vs e,c.w.heap[(c.pl id).gb]? = some (.cells vs e (0,0))/\ax c cs vs.toList
 | .arr k xs=>xs.length<=(c.pl id).cap/\(0<(c.pl id).cap->∃vs e,c.w.heap[(c.pl id).gb]? = some (.cells vs e (0,0))/\vs.size=(c.pl id).cap * k/\cB c.w (Imm c) (c.pl id).gb k 0 xs)
 | .mt k _ xs=>xs.length<=(c.pl id).cap/\(∀x∈xs,x.length=k)/\(0<(c.pl id).cap->∃vs e,c.w.heap[(c.pl id).gb]? = some (.cells vs e (0,0))/\vs.size=(c.pl id).cap * k/\
   aX c.w (Imm c) xs.flatten (vs.toList.take (xs.length * k))/\∀v∈vs.toList.take (xs.length * k),one v=true)
 | .iter s pos=>c.w.heap[(c.pl id).gb]? = some (.stringIter ⟨s.toArray⟩ pos)
 | .map kk es=>∃ms clock,c.w.heap[(c.pl id).gb]? = some (.map ms clock)/\oV c.w (Imm c) kk es ms.toList
def lZ (c:Cx) (r:fp) (t:Array Value):Prop:=∀i v,look r i=some v->aA c v (t.getD i undef)
def cw (c:Cx):List V->List Deferred->Prop
 | [],ds=>ds=[]
 | v::vs,ds=>∃d ds' f first cap fs cs,ds=d::ds'/\v = .func f first cap/\d={ target:=.fn (.func f) cs.toArray,args:=fs.toArray }/\ax c first fs/\ax c cap cs/\cw c vs ds'
structure cZ (c:Cx) (w0:World) (next:Nat):Prop where
 below:Below c.B w0 c.w
 other:∀b,c.J0.X b->b<w0.heap.size/\c.w.heap[b]? = w0.heap[b]?
 kJ:GOk c.B w0
 blk:∀id b,look c.heap id=some b->cJ c id b
 lt:∀id b,look c.heap id=some b->id<next
 ge:∀id b,look c.heap id=some b->Ph (c.pl id) b->¬c.Old (c.pl id).gb
 inj:∀id id' b b',look c.heap id=some b->look c.heap id' = some b'->Ph (c.pl id) b->Ph (c.pl id') b'->(c.pl id).gb=(c.pl id').gb->id=id'
def c6 (p p' : Pl):Blk->Blk->Prop
 | .var _,.var _=>p.gb=p'.gb
 | .arr k xs,.arr k' xs'=>k=k'/\(∃ys,xs' = xs++ys)/\(xs' = xs->p' = p)
 | .mt k ver xs,.mt k' dE xs'=>k=k'/\ver<=dE/\(dE = ver->p' = p/\xs'.length=xs.length)
 | .iter _ _,.iter _ _=>p.gb=p'.gb
 | .map kk _,.map kk' _=>kk=kk'/\p.gb=p'.gb
 | _,_=>False
structure pK (K:Nat) (c c' : Cx):Prop where
 keeps:Keeps c.w c'.w (Imm c) (Imm c')
 blks:∀id b,id<K->look c.heap id=some b->∃b',look c'.heap id=some b'/\c6 (c.pl id) (c'.pl id) b b'
structure Evo (c c' : Cx):Prop where
 keeps:Keeps c.w c'.w (Imm c) (Imm c')
 blks:∀id b,look c.heap id=some b->∃b',look c'.heap id=some b'/\c6 (c.pl id) (c'.pl id) b b'
theorem Evo.toK {c c' : Cx} (h:Evo c c') (K:Nat):pK K c c':=⟨h.keeps,fun id b _ hb=>h.blks id b hb⟩
structure Fr where
 K:Nat
 p:Cx->Prop
 ok:∀c c',pK K c c'->p c->p c'
def Fr.none:Fr:=⟨0,fun _=>True,fun _ _ _ _=>trivial⟩
structure Rel (c:Cx) (w0:World) (n:Nat) (gs:Fr) (st:St) (a:Act):Prop where
 heap:c.heap=st.heap
 hrel:cZ c w0 st.next
 size:a.tmps.size=n
 regs:lZ c st.regs a.tmps
 frames:gs.p c
 mK:gs.K<=st.base
 base:st.base<=st.next
 defers:cw c st.defers a.defers
theorem ki.evo {K:Nat} {c c' : Cx} (h:pK K c c') {id ver off len:Nat} (hK:id<K) {gv:Value} (r:ki c id ver off len gv (look c.heap id)):ki c' id ver off len gv (look c'.heap id):=by
 cases hl:look c.heap id with
 | none=>rw [hl] at r;exact r.elim
 | some b=>
  obtain ⟨b',hb',he⟩:=h.blks id b hK hl;rw [hl] at r;rw [hb']
  cases b with
  | var cs=>exact r.elim
  | iter s p=>exact r.elim
  | map kk es=>exact r.elim
  | arr k xs=>
   cases b' with
   | arr k' xs'=>
    obtain ⟨rfl,⟨ys,rfl⟩,hp⟩:=he;obtain ⟨h1,r⟩:=r;have hys:off+len=(xs++ys).length->ys=[]:=by
     intro hlen;simp at hlen;exact List.eq_nil_of_length_eq_zero (by omega)
    refine ⟨by simp;omega,?_⟩
    rcases r with ⟨r1,r2,r3⟩|⟨b0,o,cap,h2,h3,h4,h5⟩
    ·refine .inl ⟨r1,r2,fun hlen=>?_⟩
     have:=hys (by omega);subst this;simp at hp hlen;rw [hp];exact r3 hlen
    ·refine .inr ⟨b0,o,cap,h2,h3,?_,?_⟩
     ·have:((xs++ys).drop off).take len=(xs.drop off).take len:=by
       rw [List.drop_append_of_le_length (by omega),List.take_append_of_le_length (by simp;omega)]
      rw [this];exact cB.keep h.keeps _ _ _ _ h4
     ·intro hlen
      have:=hys hlen;subst this;simp at hp;rw [hp];exact h5 (by simpa using hlen)
   | _=>exact he.elim
  | mt k v xs=>
   cases b' with
   | mt k' v' xs'=>
    obtain ⟨rfl,hle,hp⟩:=he;obtain ⟨r1,r3,r2⟩:=r;refine ⟨Nat.le_trans r1 hle,r3,fun hv=>?_⟩;have hvv:v' = v:=by omega
    obtain ⟨hp1,hp2⟩:=hp hvv;rw [hp1,hp2];exact r2 (by omega)
   | _=>exact he.elim
theorem jG.evo {K:Nat} {c c' : Cx} (h:pK K c c') {id ver i cc:Nat} (hK:id<K) {gv:Value} (r:jG c id ver i cc gv (look c.heap id)):jG c' id ver i cc gv (look c'.heap id):=by
 cases hl:look c.heap id with
 | none=>rw [hl] at r;exact r.elim
 | some b=>
  obtain ⟨b',hb',he⟩:=h.blks id b hK hl;rw [hl] at r;rw [hb']
  cases b with
  | var cs=>exact r.elim
  | iter s p=>exact r.elim
  | map kk es=>exact r.elim
  | arr k xs=>exact r.elim
  | mt k v xs=>
   cases b' with
   | mt k' v' xs'=>
    obtain ⟨rfl,hle,hp⟩:=he;obtain ⟨r1,r3,r2⟩:=r;refine ⟨Nat.le_trans r1 hle,r3,fun hv=>?_⟩;have hvv:v' = v:=by omega
    obtain ⟨hp1,hp2⟩:=hp hvv;rw [hp1,hp2];exact r2 (by omega)
   | _=>exact he.elim
theorem fq.evo {K:Nat} {c c' : Cx} (h:pK K c c') {id:Nat} (hK:id<K) {gv:Value} (r:fq c id gv (look c.heap id)):fq c' id gv (look c'.heap id):=by
 cases hl:look c.heap id with
 | none=>rw [hl] at r;exact r.elim
 | some b=>
  obtain ⟨b',hb',he⟩:=h.blks id b hK hl;rw [hl] at r;rw [hb']
  cases b with
  | iter s p=>
   cases b' with
   | iter s' p'=>simp only [c6] at he;simp only [fq] at r ⊢;rw [<- he];exact r
   | _=>exact he.elim
  | map kk es=>
   cases b' with
   | map kk' es'=>simp only [c6] at he;simp only [fq] at r ⊢;rw [<- he.2];exact r
   | _=>exact he.elim
  | _=>exact r.elim
theorem c6.KH {p p' : Pl} {b b' : Blk} (h:c6 p p' b b') (hv:∃cs,b = .var cs):p.gb=p'.gb/\∃cs,b' = .var cs:=by
 obtain ⟨cs,rfl⟩:=hv
 cases b' with
 | var cs'=>exact ⟨h,cs',rfl⟩
 | _=>exact h.elim
mutual
def V.lt (K:Nat):V->Prop
 | .ptr id _=>id<K
 | .mG id _ _ _=>id<K
 | .ref id _ _ _=>id<K
 | .agg cs=>ltL K cs
 | .func _ fs cs=>ltL K fs/\ltL K cs
 | .tuple cs=>ltL K cs
 | .d _=>True
 | .ro _ _=>True
 | .hnd id=>id<K
 | .row id _=>id<K
 | .undef=>True
def ltL (K:Nat):List V->Prop
 | []=>True
 | v::r=>v.lt K/\ltL K r
end
mutual
theorem aA.lt {c:Cx} {K:Nat} (h:∀id b,look c.heap id=some b->id<K):∀(x:V) (v:Value),aA c x v->x.lt K
 | .d x,v,r=>trivial
 | .ptr id off,v,⟨⟨cs,h1⟩,_⟩=>h id _ h1
 | .ro cs off,v,_=>trivial
 | .mG id ver i cc,v,r=>by
  simp only [aA] at r
  cases hl:look c.heap id with
  | none=>rw [hl] at r;exact r.elim
  | some b=>exact h id b hl
 | .ref id ver off len,v,r=>by
  simp only [aA] at r
  cases hl:look c.heap id with
  | none=>rw [hl] at r;exact r.elim
  | some b=>exact h id b hl
 | .agg cs,v,⟨vs,h1,h2⟩=>ax.lt h cs vs h2
 | .func f fs cs,v,⟨us,vs,h1,h2,h3⟩=>⟨ax.lt h fs us h2,ax.lt h cs vs h3⟩
 | .tuple ds,v,⟨vs,h1,h2⟩=>ax.lt h ds vs h2
 | .hnd id,v,r=>by
  simp only [aA] at r
  cases hl:look c.heap id with
  | none=>rw [hl] at r;exact r.elim
  | some b=>exact h id b hl
 | .row id len,v,⟨⟨cs,h1⟩,_⟩=>h id _ h1
 | .undef,v,r=>trivial
theorem ax.lt {c:Cx} {K:Nat} (h:∀id b,look c.heap id=some b->id<K):∀(xs:List V) (vs:List Value),ax c xs vs->ltL K xs
 | [],vs,r=>trivial
 | d::ds,vs,⟨v,vs',h1,h2,h3⟩=>⟨aA.lt h d v h2,ax.lt h ds vs' h3⟩
end
mutual
theorem aA.tw {K:Nat} {c c' : Cx} (h:pK K c c'):∀(x:V) (v:Value),x.lt K->aA c x v->aA c' x v
 | .d x,v,_,r=>aE.keep h.keeps x v r
 | .ptr id off,v,hK,r=>by
  obtain ⟨⟨cs,h1⟩,h2⟩:=r;obtain ⟨b',hb',he⟩:=h.blks id _ hK h1;obtain ⟨hg,cs',rfl⟩:=he.KH ⟨cs,rfl⟩;exact ⟨⟨cs',hb'⟩,by rw [<- hg];exact h2⟩
 | .ro cs off,v,_,⟨b,o,h1,h2⟩=>⟨b,o,h1,dO.keep h.keeps _ _ _ h2⟩
 | .mG id ver i cc,v,hK,r=>jG.evo h hK r
 | .ref id ver off len,v,hK,r=>ki.evo h hK r
 | .agg cs,v,hK,⟨vs,h1,h2⟩=>⟨vs,h1,ax.tw h cs vs hK h2⟩
 | .func f fs cap,v,hK,⟨us,vs,h1,h2,h3⟩=>⟨us,vs,h1,ax.tw h fs us hK.1 h2,ax.tw h cap vs hK.2 h3⟩
 | .tuple ds,v,hK,⟨vs,h1,h2⟩=>⟨vs,h1,ax.tw h ds vs hK h2⟩
 | .hnd id,v,hK,r=>fq.evo h hK r
 | .row id len,v,hK,r=>by
  obtain ⟨⟨cs,h1⟩,h2,h3⟩:=r;obtain ⟨b',hb',he⟩:=h.blks id _ hK h1;obtain ⟨hg,cs',rfl⟩:=he.KH ⟨cs,rfl⟩;exact ⟨⟨cs',hb'⟩,by rw [<- hg];exact h2,h3⟩
 | .undef,v,_,r=>r
theorem ax.tw {K:Nat} {c c' : Cx} (h:pK K c c'):∀(xs:List V) (vs:List Value),ltL K xs->ax c xs vs->ax c' xs vs
 | [],vs,_,r=>r
 | d::ds,vs,hK,⟨v,vs',h1,h2,h3⟩=>⟨v,vs',h1,aA.tw h d v hK.1 h2,ax.tw h ds vs' hK.2 h3⟩
end
def A6:Heap->Nat
 | []=>0
 | (i,_)::r=>max (i+1) (A6 r)
theorem yp:∀(h:Heap) (id:Nat) (b:Blk),look h id=some b->id<A6 h
 | [],id,b,hh=>by simp [look] at hh
 | (i,x)::r,id,b,hh=>by
  rw [look] at hh
  split at hh
  ·rename_i hb
   have:=Nat.eq_of_beq_eq_true hb;subst this;simp only [A6];omega
  ·have:=yp r id b hh
   simp only [A6];omega
theorem aA.evo {c c' : Cx} (h:Evo c c') (x:V) (v:Value) (r:aA c x v):aA c' x v:=aA.tw (h.toK (A6 c.heap)) x v (aA.lt (yp c.heap) x v r) r
theorem ax.evo {c c' : Cx} (h:Evo c c') (xs:List V) (vs:List Value) (r:ax c xs vs):ax c' xs vs:=ax.tw (h.toK (A6 c.heap)) xs vs (ax.lt (yp c.heap) xs vs r) r
theorem lZ.evo {c c' : Cx} (h:Evo c c') {r:fp} {t:Array Value} (hr:lZ c r t):lZ c' r t:=fun i v hv=>aA.evo h v _ (hr i v hv)
theorem cw.evo {c c' : Cx} (h:Evo c c'):∀{vs:List V} {ds:List Deferred},cw c vs ds->cw c' vs ds
 | [],_,r=>r
 | v::vs,ds,⟨d,ds',f,first,cap,fs,cs,h1,h2,h3,h4,h6,h5⟩=>⟨d,ds',f,first,cap,fs,cs,h1,h2,h3,ax.evo h _ _ h4,ax.evo h _ _ h6,cw.evo h h5⟩
theorem cJ.evo {c c' : Cx} (h:Evo c c') {id:Nat} {b:Blk} (hp:c'.pl id=c.pl id) (hw:Ph (c.pl id) b->c'.w.heap[(c.pl id).gb]? = c.w.heap[(c.pl id).gb]?) (r:cJ c id b):cJ c' id b:=by
 cases b with
 | var cs=>obtain ⟨vs,e,h1,h2⟩:=r;exact ⟨vs,e,by rw [hp,hw trivial];exact h1,ax.evo h _ _ h2⟩
 | arr k xs=>
  obtain ⟨h0,r⟩:=r;refine ⟨by rw [hp];exact h0,fun hc=>?_⟩;rw [hp] at hc ⊢;obtain ⟨vs,e,h1,h2,h4⟩:=r hc;exact ⟨vs,e,by rw [hw hc];exact h1,h2,cB.keep h.keeps _ _ _ _ h4⟩
 | mt k v xs=>
  obtain ⟨h0,h4,r⟩:=r;refine ⟨by rw [hp];exact h0,h4,fun hc=>?_⟩;rw [hp] at hc ⊢;obtain ⟨vs,e,h1,h2,h5,h6⟩:=r hc;exact ⟨vs,e,by rw [hw hc];exact h1,h2,aX.keep h.keeps _ _ h5,h6⟩
 | iter s p=>unfold cJ at *;rw [hp,hw trivial];exact r
 | map kk es=>obtain ⟨ms,k,h1,h2⟩:=r;exact ⟨ms,k,by rw [hp,hw trivial];exact h1,oV.keep h.keeps _ _ h2⟩
theorem Rel.evo {c c' : Cx} {w0:World} {n:Nat} {gs:Fr} {st st' : St} {a:Act} (r:Rel c w0 n gs st a) (h:Evo c c') (hh:c'.heap=st'.heap) (hH:cZ c' w0 st'.next)
  (h1:st'.regs=st.regs) (h2:st'.base=st.base) (h3:st'.defers=st.defers) (h4:st.next<=st'.next):Rel c' w0 n gs st' a:=
 ⟨hh,hH,r.size,by rw [h1];exact r.regs.evo h,gs.ok c c' (h.toK _) r.frames,by rw [h2];exact r.mK,by rw [h2];exact Nat.le_trans r.base h4,by rw [h3];exact r.defers.evo h⟩
end Uw
namespace Uw
open Go
def uz (o:Oper):Bool:=match o.op with
 | .defer _=>false
 | _=>true
def noD:Code->Bool
 | .region _ ops _=>ops.toList.all uz
 | .seq x y=>noD x&&noD y
 | .cond _ x y=>noD x&&noD y
 | .block _ x=>noD x
 | .loop x=>noD x
 | _=>true
structure WPS (P:Program) where
 W:Code->(Exit->Act->World->Prop)->Act->World->Prop
 dfr:Bool
 mono:∀{c Q Q' a w},W c Q a w->(∀e a w,Q e a w->Q' e a w)->W c Q' a w
 skip:∀{Q:Exit->Act->World->Prop} {a w},Q .normal a w->W .skip Q a w
 exit:∀{id:Nat} {Q:Exit->Act->World->Prop} {a w},Q (.exit id) a w->W (.exit id) Q a w
 ret:∀{Q:Exit->Act->World->Prop} {a w},Q .ret a w->W .ret Q a w
 seq:∀{x y Q a w},W x (Exit.then (W y Q) Q) a w->W (.seq x y) Q a w
 cond:∀{c:Operand} {x y:Code} {Q:Exit->Act->World->Prop} {a:Act} {w:World} {t:Bool},a.eval c = .bool t->(t=true->W x Q a w)->(t=false->W y Q a w)->W (.cond c x y) Q a w
 block:∀{id c Q a w},W c (Exit.inBlock id Q) a w->W (.block id c) Q a w
 loop:∀{c:Code} {Q:Exit->Act->World->Prop} {a:Act} {w:World} (I:Act->World->Prop) (μ:Act->World->Nat),I a w->(∀a w,I a w->W c (Exit.then (fun a' w'=>I a' w'/\μ a' w' < μ a w) Q) a w)->W (.loop c) Q a w
 list:∀{id:Nat} {ops:Array Oper} {Q:Exit->Act->World->Prop} {a w},¬LetsOut Q->(dfr=true\/ops.toList.all uz=true)->wpList P ops Q ops.toList a w->W (.region id ops false) Q a w
 any:∀{id:Nat} {ops:Array Oper} {Q:Exit->Act->World->Prop} {a:Act} {w:World},P.follows .mixedOrders=true->¬LetsOut Q->(dfr=true\/ops.toList.all uz=true)->
  wpAny P .any ops Q ops.size (Array.replicate ops.size false) a { w with drawn:=w.drawn+1 }->W (.region id ops true) Q a w
def plainW (P:Program):WPS P where
 W:=fun c Q a w=>Code.wp P c Q a w
 dfr:=true
 mono:=fun h hq=>Go.wp_mono h hq
 skip:=wp_skip
 exit:=wp_exit
 ret:=wp_ret
 seq:=wp_seq
 cond:=fun hc h1 h2=>wp_cond_split hc h1 h2
 block:=wp_block
 loop:=fun I μ h0 h=>wp_loop I μ h0 h
 list:=fun _ _ h=>wp_region_list h
 any:=fun hm _ _ h=>wp_region_any hm h
section
variable {P : Program} {Q : Exit -> Act -> World -> Prop} {n l : Nat} {ops : Array Oper}
theorem TS {o:Oper} {a:Act} {w:World} {K:Act->World->Prop} (hd:uz o=true) (h:o.wp P a w K Q):o.wpIn (Fence.wide.inRound l) n P a w K Q:=by
 refine ⟨fun _ _=>trivial,?_⟩;rw [Oper.semAt_eq _ _ _ (fun c hc=>by simp [uz,hc] at hd)];unfold Oper.wp at h;generalize (execOp a.eval o).run P w=r at h
 cases r with
 | ok nx w'=>
  cases nx with
  | enter f args=>
   rw [Oper.upon_enter] at h;rw [Oper.uponIn_enter];refine ⟨fun hh=>by simp [Fence.inRound,Fence.wide] at hh,CallsIn.inRound l ((callsIn_wide (n:=n - 1)).2 (Calls.mono h ?_))⟩;intro e w'' hh
   cases e<;>exact hh
  | row rw args=>
   refine ⟨fun hh=>by simp [Fence.inRound,Fence.wide] at hh,?_⟩;intro c cs _;obtain ⟨v,w'',h1,h2⟩:=h c cs;exact ⟨v,w'',h1,stepsIn_wide.2 h2⟩
  | value v=>exact h
  | skip=>exact h
  | defer d=>exact h
  | _=>exact h.elim
 | halt s w'=>
  cases s<;>first|exact h|exact h.elim
theorem KI (hno:¬LetsOut Q):∀(L:List Oper),(∀o∈L,uz o=true)->∀(a:Act) (w:World),wpList P ops Q L a w->wpListIn (Fence.wide.inRound l) n P ops Q L a w
 | [],_,a,w,h=>h
 | o::L,hd,a,w,h=>by
  simp only [wpList] at h;simp only [wpListIn]
  split at h
  ·rename_i hw
   rw [if_pos hw]
   rcases h with h|h
   ·exact TS (hd o (by simp)) (Oper.wp_mono (fun a w h=>KI hno L (fun o ho=>hd o (by simp [ho])) a w h) h)
   ·exact (hno h.2).elim
  ·rename_i hw
   rw [if_neg hw];exact ⟨fun _ _=>trivial,KI hno L (fun o ho=>hd o (by simp [ho])) _ _ h⟩
theorem Ii {md:Region.Mode} (hno:¬LetsOut Q) (hd:∀o∈ops.toList,uz o=true):∀(fuel:Nat) (L:Array Bool) (a:Act) (w:World),wpAny P md ops Q fuel L a w->wpAnyIn (Fence.wide.inRound l) n P md ops Q fuel L a w
 | 0,L,a,w,h=>h
 | fuel+1,L,a,w,h=>by
  refine ⟨h.1,fun i hi=>?_⟩;have h:=h.2 i hi;unfold wpOp at h;unfold wpOpIn
  split
  ·rename_i ho
   rw [ho] at h;exact Ii hno hd fuel _ _ _ h
  ·rename_i o ho
   rw [ho] at h;simp only at h
   split at h
   ·rename_i hw
    rw [if_pos hw]
    rcases h with h|h
    ·exact TS (hd o (by rw [Array.mem_toList_iff];exact Array.mem_of_getElem? ho)) (Oper.wp_mono (fun a w h=>Ii hno hd fuel _ _ _ h) h)
    ·exact (hno h.2).elim
   ·rename_i hw
    rw [if_neg hw];exact ⟨fun _ _=>trivial,Ii hno hd fuel _ _ _ h⟩
end
def KJ (P:Program) (l n:Nat):WPS P where
 W:=fun c Q a w=>Code.wpIn (Fence.wide.inRound l) n P c Q a w
 dfr:=false
 mono:=fun h hq=>wpIn_mono h hq
 skip:=wpIn_skip
 exit:=wpIn_exit
 ret:=wpIn_ret
 seq:=wpIn_seq
 cond:=fun hc h1 h2=>wpIn_cond_split hc h1 h2
 block:=wpIn_block
 loop:=fun I μ h0 h=>wpIn_loop I μ h0 h
 list:=fun hno hd h=>wpIn_region_list (KI hno _ (fun o ho=>List.all_eq_true.1 (hd.resolve_left (by simp)) o ho) _ _ h)
 any:=fun hm hno hd h=>wpIn_region_any hm (Ii hno (fun o ho=>List.all_eq_true.1 (hd.resolve_left (by simp)) o ho) _ _ _ _ h)
theorem WPS.ghost {P:Program} (S:WPS P) {Q:Exit->Act->World->Prop} {a:Act} {w:World} {c:Code} (I:Nat->Act->World->Prop) (n₀:Nat) (h₀:I n₀ a w)
  (round:∀n a w,I n a w->S.W c (Exit.then (fun a' w'=>∃n',n' < n/\I n' a' w') Q) a w):S.W (.loop c) Q a w:=by
 refine S.loop (fun a w=>∃n,I n a w) (fun a w=>leastOf (fun n=>I n a w)) ⟨n₀,h₀⟩ ?_;intro a w hI;refine S.mono (round _ a w (leastOf_spec hI).1) ?_;intro e a' w' hq
 cases e with
 | normal=>
  obtain ⟨n',hlt,hI'⟩:=hq;exact show (∃n,I n a' w')/\leastOf (fun n=>I n a' w')<leastOf (fun n=>I n a w) from ⟨⟨n',hI'⟩,Nat.lt_of_le_of_lt ((leastOf_spec ⟨n',hI'⟩).2 n' hI') hlt⟩
 | exit id=>exact hq
 | goto l=>exact hq
 | ret=>exact hq
 | panic ch=>exact hq
 | outgrown=>exact hq
def WPS.rounds {P:Program} (S:WPS P) (c:Code) (Q:Exit->Act->World->Prop):Nat->Act->World->Prop
 | 0,_,_=>False
 | n+1,a,w=>S.W c (Exit.then (WPS.rounds S c Q n) Q) a w
theorem WPS.TT {P:Program} (S:WPS P) {Q:Exit->Act->World->Prop} {a:Act} {w:World} {c:Code} (n:Nat) (h:S.rounds c Q n a w):S.W (.loop c) Q a w:=by
 refine S.ghost (fun n a w=>S.rounds c Q n a w) n h ?_;intro n a w h
 cases n with
 | zero=>exact h.elim
 | succ n=>
  refine S.mono h ?_;intro e a' w' hq
  cases e with
  | normal=>exact ⟨n,by omega,hq⟩
  | exit id=>exact hq
  | goto l=>exact hq
  | ret=>exact hq
  | panic ch=>exact hq
  | outgrown=>exact hq
end Uw
namespace Uw
open Go Go.RowKit
variable [Glob]
def bG (c:Cx):Exit->aH->Prop
 | .normal,.normal=>True
 | .exit i,.exit j=>i=j
 | .ret,.ret=>True
 | .panic ch,.panic d=>∃v,ch=[{ v:=v,recovered:=false }]/\aE c.w (Imm c) d v
 | _,_=>False
def KL (c:Cx):Ending->Res->Prop
 | .returned gv,.val v=>aA c v gv
 | .panicked ch,.pan d=>∃v,ch=[{ v:=v,recovered:=false }]/\aE c.w (Imm c) d v
 | _,_=>False
def nJ (P:Program) (f:FuncId):Prop:=∃fn,P.funcs[f]? = some fn/\fn.body.isSome=true/\(fn.name == "runtime.NumGoroutine")=false
def l5 (P:Program) (f:FuncId) (vs:List V) (h:Heap) (nx:Nat) (Q:Res->Heap->Nat->Prop):Prop:=
 nJ P f/\∀(c:Cx) (w0:World) (F:Fr) (gvs:List Value),c.heap=h->cZ c w0 nx->F.K<=nx->F.p c->ax c vs gvs->
  Calls P f gvs.toArray c.w fun e w'=>∃c' r nx',c'.B=c.B/\c'.J0=c.J0/\c'.w=w'/\cZ c' w0 nx'/\nx<=nx'/\F.p c'/\KL c' e r/\Q r c'.heap nx'
def NI (P:Program) (m:b9) (st:St) (Q:aH->St->Prop):Prop:=
 ∀(S:WPS P) (n:Nat) (pol:Pol) (code:Code),comp P n pol code=some m->(S.dfr=true\/noD code=true)->∀c w0 gs a,Rel c w0 n gs st a->
  S.W code (fun e a' w'=>∃c' me st',c'.B=c.B/\c'.J0=c.J0/\c'.w=w'/\bG c' e me/\Rel c' w0 n gs st' a'/\Q me st') a c.w
def WT (P:Program) (Q:aH->St->Prop):Tree->Prop
 | .done e st=>Q e st
 | .fail=>False
 | .test b y n=>(b=true->WT P Q y)/\(b=false->WT P Q n)
 | .both y n=>WT P Q y/\WT P Q n
 | .same x y t=>x=y/\WT P Q t
 | .elem xs i k=>∃x,xs[i]? = some x/\WT P Q (k x)
 | .byte s i k=>∃x,s[i]? = some x/\WT P Q (k x)
 | .val o k=>∃x,o=some x/\WT P Q (k x)
 | .call f ds k=>∃r,Ret P f ds r/\WT P Q (k r)
 | .sub f vs h nx k=>l5 P f vs h nx fun r h' nx'=>WT P Q (k r h' nx')
 | .code m st k=>NI P m st fun e st'=>WT P Q (k e st')
 | .blk o k=>∃x,o=some x/\WT P Q (k x)
 | .B2 o k=>∃x,o=some x/\WT P Q (k x)
 | .heq h k=>∃h',(∀i,look h' i=look h i)/\WT P Q (k h')
section
variable {P : Program} {o : Oper} {a : Act} {K : Act -> World -> Prop} {Qx : Exit -> Act -> World -> Prop} {w w' : World}
theorem ca {gv:Value} (h:(execOp a.eval o).run P w = .ok (.value gv) w') (hk:K (a.put o.dst gv) w'):o.wp P a w K Qx:=by
 unfold Oper.wp;rw [h];exact hk
theorem yq (h:(execOp a.eval o).run P w = .ok .skip w') (hk:K (a.put o.dst undef) w'):o.wp P a w K Qx:=by
 unfold Oper.wp;rw [h];exact hk
end
theorem vL {v:Value} {d:Dat} (h:yl v=some d) (w:World) (J:Nat->Nat->Prop):aE w J d v:=by
 unfold yl at h
 split at h
 case h_9 f x y=>
  split at h
  ·rename_i hx hy
   simp at h hx hy;subst h hx hy;simp [aE]
  ·simp at h
 all_goals first|(simp at h;subst h;simp [aE])|(simp at h)
theorem fH:∀{vs:List Value} {ds:List Dat},jD vs=some ds->∀(w:World) (J:Nat->Nat->Prop),aX w J ds vs
 | [],ds,h,w,J=>by simp [jD] at h;subst h;simp [aX]
 | v::vs,ds,h,w,J=>by
  unfold jD at h
  split at h
  ·rename_i x l hx hl
   simp at h;subst h;exact ⟨v,vs,rfl,vL hx w J,fH hl w J⟩
  ·simp at h
theorem Rj {st:St} {t:Nat} {v:V} (h:(Opd.t t).ev st=some v):look st.regs t=some v/\v≠.undef:=by
 simp only [Opd.ev] at h
 split at h
 ·simp at h
 ·rename_i h1;exact ⟨h,fun e=>h1 (by rw [h,e])⟩
theorem wK {st:St} {y:Opd} {v:V} (h:y.ev st=some v):v≠.undef:=by
 cases y with
 | t n=>exact (Rj h).2
 | c d=>simp [Opd.ev] at h;subst h;simp
theorem aD {c:Cx} {w0:World} {n:Nat} {gs:Fr} {st:St} {a:Act} (r:Rel c w0 n gs st a) {x:Operand} {y:Opd} (hc:al x=some y) {v:V} (hv:y.ev st=some v):aA c v (a.eval x):=by
 cases x with
 | tmp t=>simp [al] at hc;subst hc;exact r.regs t v (Rj hv).1
 | const u=>
  simp [al] at hc;obtain ⟨d,hd,rfl⟩:=hc;simp [Opd.ev] at hv;subst hv;exact vL hd _ _
 | func f=>simp [al] at hc;subst hc;simp [Opd.ev] at hv;subst hv;simp [aA,aE,Act.eval]
 | global g=>simp [al] at hc
theorem ax.length {c:Cx}:∀{xs:List V} {vs:List Value},ax c xs vs->vs.length=xs.length
 | [],vs,h=>by simp [ax] at h;simp [h]
 | x::xs,vs,h=>by obtain ⟨v,vs',rfl,_,h3⟩:=h;simp [ax.length h3]
theorem aX.length {w:World} {J:Nat->Nat->Prop}:∀{xs:List Dat} {vs:List Value},aX w J xs vs->vs.length=xs.length
 | [],vs,h=>by simp [aX] at h;simp [h]
 | x::xs,vs,h=>by obtain ⟨v,vs',rfl,_,h3⟩:=h;simp [aX.length h3]
theorem ax.ofL {c:Cx}:∀{ds:List Dat} {vs:List Value},aX c.w (Imm c) ds vs->ax c (ds.map V.d) vs
 | [],vs,h=>by simpa [ax,aX] using h
 | d::ds,vs,h=>by obtain ⟨v,vs',rfl,h2,h3⟩:=h;exact ⟨v,vs',rfl,h2,ax.ofL h3⟩
theorem mA {c:Cx} {x:V} {v:Value} (h:aA c x v) (hx:x≠.undef):ax c x.cells v.cells.toList:=by
 cases x with
 | agg cs=>obtain ⟨vs,rfl,h2⟩:=h;simpa [V.cells,Value.cells] using h2
 | d x=>
  cases x with
  | agg ds=>obtain ⟨vs,rfl,h2⟩:=h;simpa [V.cells,Value.cells] using ax.ofL h2
  | bool b=>simp only [aA,aE] at h;subst h;exact ⟨_,[],rfl,by simp [aA,aE],rfl⟩
  | int k n=>simp only [aA,aE] at h;subst h;exact ⟨_,[],rfl,by simp [aA,aE],rfl⟩
  | str s=>simp only [aA,aE] at h;subst h;exact ⟨_,[],rfl,by simp [aA,aE],rfl⟩
  | nil=>simp only [aA,aE] at h;subst h;exact ⟨_,[],rfl,by simp [aA,aE],rfl⟩
  | slice k xs z=>
   have h':=h
   rcases h' with ⟨⟨_,rfl,_⟩,_⟩|⟨b,o,cap,rfl,_⟩
   ·exact ⟨_,[],rfl,h,rfl⟩
   ·exact ⟨_,[],rfl,h,rfl⟩
  | func f=>simp only [aA,aE] at h;subst h;exact ⟨_,[],rfl,by simp [aA,aE],rfl⟩
  | nilFunc=>simp only [aA,aE] at h;subst h;exact ⟨_,[],rfl,by simp [aA,aE],rfl⟩
  | nilIface=>simp only [aA,aE] at h;subst h;exact ⟨_,[],rfl,by simp [aA,aE],rfl⟩
  | nilPtr=>simp only [aA,aE] at h;subst h;exact ⟨_,[],rfl,by simp [aA,aE],rfl⟩
  | aV=>simp only [aA,aE] at h;subst h;exact ⟨_,[],rfl,by simp [aA,aE],rfl⟩
  | iface t d=>obtain ⟨u,rfl,h2⟩:=h;exact ⟨_,[],rfl,⟨u,rfl,h2⟩,rfl⟩
  | tuple ds=>obtain ⟨vs,rfl,h2⟩:=h;exact ⟨_,[],rfl,⟨vs,rfl,h2⟩,rfl⟩
 | ptr id off=>obtain ⟨h1,rfl⟩:=h;exact ⟨_,[],rfl,⟨h1,rfl⟩,rfl⟩
 | ro cs off=>obtain ⟨b,o,rfl,h2⟩:=h;exact ⟨_,[],rfl,⟨b,o,rfl,h2⟩,rfl⟩
 | mG id ver i cc=>
  have h':=h;simp only [aA] at h';unfold jG at h'
  split at h'
  ·obtain ⟨_,⟨x,rfl⟩,_⟩:=h';exact ⟨_,[],rfl,h,rfl⟩
  ·exact h'.elim
 | ref id ver off len=>
  have h':=h;simp only [aA] at h';unfold ki at h'
  split at h'
  ·rcases h' with ⟨_,⟨rfl,_⟩|⟨b,o,cap,rfl,_⟩⟩<;>exact ⟨_,[],rfl,h,rfl⟩
  ·obtain ⟨_,⟨x,l,cp,rfl⟩,_⟩:=h';exact ⟨_,[],rfl,h,rfl⟩
  ·exact h'.elim
 | func f fs cap=>obtain ⟨us,vs,rfl,h2⟩:=h;exact ⟨_,[],rfl,⟨us,vs,rfl,h2⟩,rfl⟩
 | tuple ds=>obtain ⟨vs,rfl,h2⟩:=h;exact ⟨_,[],rfl,⟨vs,rfl,h2⟩,rfl⟩
 | hnd id=>
  have h':=h;simp only [aA] at h';unfold fq at h'
  split at h'
  ·subst h';exact ⟨_,[],rfl,h,rfl⟩
  ·subst h';exact ⟨_,[],rfl,h,rfl⟩
  ·exact h'.elim
 | row id len=>obtain ⟨h1,rfl,h3⟩:=h;exact ⟨_,[],rfl,⟨h1,rfl,h3⟩,rfl⟩
 | undef=>exact (hx rfl).elim
end Uw
namespace Uw
open Go Go.RowKit
variable [Glob]
theorem ai {α:Type} (l:List (Nat×α)) (i j:Nat) (a:α):look ((i,a)::l) j=if i=j then some a else look l j:=by
 rw [look];by_cases h:i=j
 ·subst h;simp
 ·have:Nat.beq i j=false:=by
   rw [Bool.eq_false_iff];intro hb;exact h (Nat.eq_of_beq_eq_true hb)
  simp [this,h]
theorem cell_of_block {w w' : World} {b o:Nat} (h:w'.heap[b]? = w.heap[b]?):w'.cell? ⟨b,o,none⟩=w.cell? ⟨b,o,none⟩:=World.cell?_of_block (w:=w) (w':=w') (a:=⟨b,o,none⟩) h
theorem cZ.yr {c:Cx} {w0:World} {n:Nat} (h:cZ c w0 n):c.B<=c.w.heap.size:=Nat.le_trans h.kJ.1 h.below.size
theorem cZ.B9 {c:Cx} {w0:World} {n:Nat} (h:cZ c w0 n) {b:Nat} (hb:c.Old b):b<c.w.heap.size:=by
 rcases hb with hb|hb
 ·exact Nat.lt_of_lt_of_le hb h.yr
 ·exact Nat.lt_of_lt_of_le (h.other b hb).1 h.below.size
theorem cZ.qV {c:Cx} {w0:World} {n:Nat} (h:cZ c w0 n) {b:Nat} (hb:c.w.heap.size<=b):¬c.Old b:=fun ho=>by have:=h.B9 ho;omega
theorem cZ.geB {c:Cx} {w0:World} {n:Nat} (h:cZ c w0 n) {id:Nat} {b:Blk} (hb:look c.heap id=some b) (hph:Ph (c.pl id) b):c.B<=(c.pl id).gb:=Nat.le_of_not_lt fun hlt=>h.ge id b hb hph (.inl hlt)
theorem cZ.Cc {c:Cx} {w0:World} {n:Nat} (h:cZ c w0 n) {b o:Nat} (hb:Imm c b o):b<c.w.heap.size:=by
 rcases hb with hb|hb
 ·exact h.B9 hb.1
 ·exact hb.2.1
theorem cZ.others {c:Cx} {w0:World} {n:Nat} (h:cZ c w0 n) {w' : World} (hk:∀b,c.J0.X b->b<c.w.heap.size->w'.heap[b]? = c.w.heap[b]?):∀b,c.J0.X b->b<w0.heap.size/\w'.heap[b]? = w0.heap[b]?:=fun b hb=>
 ⟨(h.other b hb).1,(hk b hb (h.B9 (.inr hb))).trans (h.other b hb).2⟩
theorem cZ.glob {c:Cx} {w0:World} {n:Nat} (h:cZ c w0 n):GOk c.w.heap.size c.w:=
 ⟨Nat.le_refl _,Nat.le_trans h.kJ.2.1 h.yr,Glob.ok w0 c.w (fun k hk=>h.below.block k (Nat.lt_of_lt_of_le hk h.kJ.2.1)) h.kJ.2.2⟩
theorem cZ.jI {c:Cx} {w0:World} {n:Nat} (h:cZ c w0 n) {id:Nat} {b:Blk} (hb:look c.heap id=some b) (hph:Ph (c.pl id) b):(c.pl id).gb<c.w.heap.size:=by
 have:=h.blk id b hb;have key:∀o,c.w.heap[(c.pl id).gb]? = some o->(c.pl id).gb<c.w.heap.size:=by
  intro o ho;by_cases hlt:(c.pl id).gb<c.w.heap.size
  ·exact hlt
  ·rw [Array.getElem?_eq_none (by omega)] at ho;cases ho
 cases b with
 | var cs=>obtain ⟨vs,e,h1,_⟩:=this;exact key _ h1
 | arr k xs=>obtain ⟨vs,e,h1,_⟩:=this.2 hph;exact key _ h1
 | mt k v xs=>obtain ⟨vs,e,h1,_⟩:=this.2.2 hph;exact key _ h1
 | iter s p=>exact key _ this
 | map kk es=>obtain ⟨ms,k,h1,_⟩:=this;exact key _ h1
theorem Evo.grow {c:Cx} {w0:World} {n:Nat} {w' : World} (r:cZ c w0 n) (h:Below c.w.heap.size c.w w'):Evo c { c with w:=w' }:=by
 refine ⟨?_,?_⟩
 ·intro b o hi
  refine ⟨?_,?_⟩
  ·rcases hi with hi|⟨h1,h2,h3⟩
   ·exact .inl hi
   ·exact .inr ⟨h1,Nat.lt_of_lt_of_le h2 h.size,h3⟩
  ·exact cell_of_block (h.block b (r.Cc hi))
 ·intro id b hb
  refine ⟨b,hb,?_⟩
  cases b<;>simp [c6]
theorem cZ.grow {c:Cx} {w0:World} {n:Nat} {w' : World} (r:cZ c w0 n) (h:Below c.w.heap.size c.w w'):cZ { c with w:=w' } w0 n:=by
 have he:=Evo.grow r h;refine ⟨r.below.trans (h.mono r.yr),r.others (fun b _ hb=>h.block b hb),r.kJ,?_,r.lt,r.ge,r.inj⟩;intro id b hb;exact cJ.evo he rfl (fun hp=>h.block _ (r.jI hb hp)) (r.blk id b hb)
theorem Rel.grow {c:Cx} {w0:World} {n:Nat} {gs:Fr} {st:St} {a:Act} {w' : World} (r:Rel c w0 n gs st a) (h:Below c.w.heap.size c.w w'):Rel { c with w:=w' } w0 n gs st a:=
 r.evo (Evo.grow r.hrel h) r.heap (r.hrel.grow h) rfl rfl rfl (Nat.le_refl _)
def Cx.push (c:Cx) (next cap:Nat) (b:Blk) (o:Obj):Cx:=
 { c with heap:=(next,b)::c.heap,pl:=fun i=>if i=next then ⟨c.w.heap.size,cap⟩ else c.pl i,w:=c.w.alloc o }
theorem oW {c:Cx} {w0:World} {next cap:Nat} {b:Blk} {o:Obj} (r:cZ c w0 next) {id:Nat} {b' : Blk} (h:look c.heap id=some b') :
  look (c.push next cap b o).heap id=some b'/\(c.push next cap b o).pl id=c.pl id:=by
 have:=r.lt id b' h;simp only [Cx.push,ai];constructor
 ·rw [if_neg (by omega)];exact h
 ·rw [if_neg (by omega)]
theorem Evo.push {c:Cx} {w0:World} {next cap:Nat} {b:Blk} {o:Obj} (r:cZ c w0 next):Evo c (c.push next cap b o):=by
 refine ⟨?_,?_⟩
 ·intro b' o' hi
  have hb:b' < c.w.heap.size:=r.Cc hi;refine ⟨?_,cell_of_block (Below.heap_alloc _ _ _ hb)⟩
  rcases hi with hi|⟨h1,h2,h3⟩
  ·exact .inl hi
  ·refine .inr ⟨h1,?_,?_⟩
   ·show b' < (c.w.heap.push o).size
    rw [Array.size_push];omega
   ·intro id blk hl hph hg
    simp only [Cx.push,ai] at hl hg hph;by_cases hid:next=id
    ·subst hid;simp at hg;omega
    ·rw [if_neg hid] at hl
     rw [if_neg (by omega)] at hg hph;exact h3 id blk hl hph hg
 ·intro id b' hb
  obtain ⟨h1,h2⟩:=oW (cap:=cap) (b:=b) (o:=o) r hb;refine ⟨b',h1,?_⟩;rw [h2]
  cases b'<;>simp [c6]
theorem cZ.push {c:Cx} {w0:World} {next cap:Nat} {b:Blk} {o:Obj} (r:cZ c w0 next) (hb:cJ (c.push next cap b o) next b):cZ (c.push next cap b o) w0 (next+1):=by
 have he:Evo c (c.push next cap b o):=Evo.push r;refine ⟨r.below.alloc r.yr o,r.others (fun b _ hb=>Below.heap_alloc _ _ _ hb),r.kJ,?_,?_,?_,?_⟩
 ·intro id b' hl
  by_cases hid:next=id
  ·subst hid
   simp only [Cx.push,ai,if_true] at hl;injection hl with hl
   subst hl;exact hb
  ·simp only [Cx.push,ai,if_neg hid] at hl
   obtain ⟨h1,h2⟩:=oW (cap:=cap) (b:=b) (o:=o) r hl;exact cJ.evo he h2 (fun hp=>Below.heap_alloc _ _ _ (r.jI hl hp)) (r.blk id b' hl)
 ·intro id b' hl
  by_cases hid:next=id
  ·omega
  ·simp only [Cx.push,ai,if_neg hid] at hl
   have:=r.lt id b' hl;omega
 ·intro id b' hl hph
  by_cases hid:next=id
  ·subst hid
   simp only [Cx.push,if_true];exact r.qV (Nat.le_refl _)
  ·simp only [Cx.push,ai,if_neg hid] at hl
   obtain ⟨h1,h2⟩:=oW (cap:=cap) (b:=b) (o:=o) r hl;rw [h2] at hph ⊢;exact r.ge id b' hl hph
 ·intro id id' b1 b2 h1 h2 p1 p2 hg
  by_cases hid:next=id
  ·by_cases EC : next=id'
   ·omega
   ·exfalso
    simp only [Cx.push,ai,if_neg EC] at h2;obtain ⟨_,e2⟩:=oW (cap:=cap) (b:=b) (o:=o) r h2;rw [e2] at p2;have:=r.jI h2 p2;simp [Cx.push,hid.symm,show id'≠next from fun h=>EC h.symm] at hg;omega
  ·simp only [Cx.push,ai,if_neg hid] at h1
   by_cases EC : next=id'
   ·exfalso
    obtain ⟨_,e1⟩:=oW (cap:=cap) (b:=b) (o:=o) r h1;rw [e1] at p1;have:=r.jI h1 p1;simp [Cx.push,EC.symm,show id≠next from fun h=>hid h.symm] at hg;omega
   ·simp only [Cx.push,ai,if_neg EC] at h2
    simp [Cx.push,show id≠next from fun h=>hid h.symm,show id'≠next from fun h=>EC h.symm] at hg p1 p2;exact r.inj id id' b1 b2 h1 h2 p1 p2 hg
theorem Rel.push {c:Cx} {w0:World} {n:Nat} {gs:Fr} {st:St} {a:Act} (r:Rel c w0 n gs st a) {b:Blk} {o:Obj} {cap:Nat} (hb:cJ (c.push st.next cap b o) st.next b) :
  Rel (c.push st.next cap b o) w0 n gs (ep st b) a:=
 r.evo (Evo.push r.hrel) (by simp [Cx.push,ep,r.heap]) (r.hrel.push hb) rfl rfl rfl (Nat.le_succ _)
theorem Evo.setVar {c:Cx} {w0:World} {next:Nat} (r:cZ c w0 next) {id:Nat} {cs cs' : List V} (hl:look c.heap id=some (.var cs)) {w' : World}
  (hw:∀b,b≠(c.pl id).gb->w'.heap[b]? = c.w.heap[b]?) (hsz:w'.heap.size=c.w.heap.size):Evo c { c with heap:=(id,.var cs')::c.heap,w:=w' }:=by
 refine ⟨?_,?_⟩
 ·intro b o hi
  have hne:b≠(c.pl id).gb:=by
   rintro rfl
   rcases hi with hi|⟨h1,h2,h3⟩
   ·exact r.ge id _ hl trivial hi.1
   ·obtain ⟨k,xs,h,_⟩:=h3 id _ hl trivial rfl;cases h
  refine ⟨?_,cell_of_block (hw b hne)⟩
  rcases hi with hi|⟨h1,h2,h3⟩
  ·exact .inl hi
  ·refine .inr ⟨h1,by simpa [hsz] using h2,?_⟩
   intro id' blk hl' hph hg;simp only [ai] at hl';by_cases hid:id=id'
   ·subst hid;exact (hne hg.symm).elim
   ·rw [if_neg hid] at hl';exact h3 id' blk hl' hph hg
 ·intro id' b hb
  simp only [ai];by_cases hid:id=id'
  ·subst hid
   rw [hl] at hb;injection hb with hb;subst hb
   exact ⟨_,if_pos rfl,rfl⟩
  ·rw [if_neg hid]
   exact ⟨b,hb,by cases b<;>simp [c6]⟩
theorem cZ.setVar {c:Cx} {w0:World} {next:Nat} (r:cZ c w0 next) {id:Nat} {cs cs' : List V} (hl:look c.heap id=some (.var cs)) {w' : World}
  (hbel:Below c.B c.w w')
  (hw:∀b,b≠(c.pl id).gb->w'.heap[b]? = c.w.heap[b]?) (hsz:w'.heap.size=c.w.heap.size)
  (hb:cJ { c with heap:=(id,.var cs')::c.heap,w:=w' } id (.var cs')):cZ { c with heap:=(id,.var cs')::c.heap,w:=w' } w0 next:=by
 have he:=Evo.setVar (cs':=cs') r hl hw hsz;refine ⟨r.below.trans hbel,r.others (fun b hb _=>hw b (fun e=>r.ge id _ hl trivial (.inr (e ▸ hb)))),r.kJ,?_,?_,?_,?_⟩
 ·intro id' b hl'
  simp only [ai] at hl';by_cases hid:id=id'
  ·subst hid;simp at hl';subst hl';exact hb
  ·rw [if_neg hid] at hl'
   refine cJ.evo he rfl (fun hph=>hw _ ?_) (r.blk id' b hl');intro hg;exact hid (r.inj id' id b _ hl' hl hph trivial hg).symm
 ·intro id' b hl'
  simp only [ai] at hl';by_cases hid:id=id'
  ·subst hid;exact r.lt id _ hl
  ·rw [if_neg hid] at hl';exact r.lt id' b hl'
 ·intro id' b hl' hph
  simp only [ai] at hl';by_cases hid:id=id'
  ·subst hid;exact r.ge id _ hl trivial
  ·rw [if_neg hid] at hl';exact r.ge id' b hl' hph
 ·intro id1 id2 b1 b2 h1 h2 p1 p2 hg
  simp only [ai] at h1 h2;have e1:∃b,look c.heap id1=some b/\Ph (c.pl id1) b:=by
   by_cases hid:id=id1
   ·subst hid;exact ⟨_,hl,trivial⟩
   ·rw [if_neg hid] at h1;exact ⟨_,h1,p1⟩
  have e2:∃b,look c.heap id2=some b/\Ph (c.pl id2) b:=by
   by_cases hid:id=id2
   ·subst hid;exact ⟨_,hl,trivial⟩
   ·rw [if_neg hid] at h2;exact ⟨_,h2,p2⟩
  obtain ⟨x1,e1,q1⟩:=e1;obtain ⟨x2,e2,q2⟩:=e2;exact r.inj id1 id2 x1 x2 e1 e2 q1 q2 hg
def Cx.aI (c:Cx) (id:Nat) (b:Blk) (p:Pl) (w:World):Cx:={ c with heap:=(id,b)::c.heap,pl:=fun i=>if i=id then p else c.pl i,w:=w }
theorem bq {c:Cx} {id:Nat} {b:Blk} {p:Pl} {w:World} {id' : Nat} (h:id≠id'):look (c.aI id b p w).heap id' = look c.heap id'/\(c.aI id b p w).pl id' = c.pl id':=by
 simp only [Cx.aI,ai];exact ⟨if_neg h,if_neg (fun e=>h e.symm)⟩
theorem ah {c:Cx} {id:Nat} {b:Blk} {p:Pl} {w:World}:look (c.aI id b p w).heap id=some b/\(c.aI id b p w).pl id=p:=by
 constructor
 ·simp only [Cx.aI,ai,if_true]
 ·simp only [Cx.aI,if_true]
theorem Evo.aI {c:Cx} {w0:World} {next:Nat} (r:cZ c w0 next) {id:Nat} {b b' : Blk} {p' : Pl} (hl:look c.heap id=some b) {w' : World}
  (hother:∀k,k<c.w.heap.size->(Ph (c.pl id) b->k≠(c.pl id).gb)->w'.heap[k]? = c.w.heap[k]?) (hsz:c.w.heap.size<=w'.heap.size)
  (hp:(p'.gb=(c.pl id).gb/\(Ph p' b'->Ph (c.pl id) b))\/c.w.heap.size<=p'.gb)
  (xA:Ph (c.pl id) b->∀o,Imm c (c.pl id).gb o->w'.cell? ⟨(c.pl id).gb,o,none⟩=c.w.cell? ⟨(c.pl id).gb,o,none⟩/\(p'.gb=(c.pl id).gb->∃k xs,b' = .arr k xs/\o<xs.length * k))
  (hbe:c6 (c.pl id) p' b b'):Evo c (c.aI id b' p' w'):=by
 refine ⟨?_,?_⟩
 ·intro k o hi
  have hk:k<c.w.heap.size:=r.Cc hi;by_cases hkg:Ph (c.pl id) b/\k=(c.pl id).gb
  ·obtain ⟨hph,hkg⟩:=hkg
   subst hkg;obtain ⟨h1,h2⟩:=xA hph o hi;refine ⟨?_,h1⟩
   rcases hi with hi|⟨g1,g2,g3⟩
   ·exact .inl hi
   ·refine .inr ⟨g1,Nat.lt_of_lt_of_le g2 hsz,?_⟩
    intro id' blk hl' kK hg;by_cases hid:id=id'
    ·subst hid
     rw [ah.1] at hl';injection hl' with hl'
     subst hl';rw [ah.2] at hg;exact h2 hg
    ·rw [(bq hid).1] at hl'
     rw [(bq hid).2] at hg kK;exact g3 id' blk hl' kK hg
  ·refine ⟨?_,cell_of_block (hother k hk (fun hph hkk=>hkg ⟨hph,hkk⟩))⟩
   rcases hi with hi|⟨g1,g2,g3⟩
   ·exact .inl hi
   ·refine .inr ⟨g1,Nat.lt_of_lt_of_le g2 hsz,?_⟩
    intro id' blk hl' kK hg;by_cases hid:id=id'
    ·subst hid
     rw [ah.1] at hl';injection hl' with hl'
     subst hl';rw [ah.2] at hg kK
     rcases hp with ⟨hp,hp2⟩|hp
     ·exact (hkg ⟨hp2 kK,by rw [<- hg,hp]⟩).elim
     ·omega
    ·rw [(bq hid).1] at hl'
     rw [(bq hid).2] at hg kK;exact g3 id' blk hl' kK hg
 ·intro id' x hx
  by_cases hid:id=id'
  ·subst hid
   rw [hl] at hx;injection hx with hx;subst hx
   exact ⟨b',ah.1,by rw [ah.2];exact hbe⟩
  ·refine ⟨x,by rw [(bq hid).1];exact hx,?_⟩
   rw [(bq hid).2]
   cases x<;>simp [c6]
theorem cZ.aI {c:Cx} {w0:World} {next:Nat} (r:cZ c w0 next) {id:Nat} {b b' : Blk} {p' : Pl} (hl:look c.heap id=some b) {w' : World} (he:Evo c (c.aI id b' p' w'))
  (hother:∀k,k<c.w.heap.size->(Ph (c.pl id) b->k≠(c.pl id).gb)->w'.heap[k]? = c.w.heap[k]?) (hbel:Below c.B c.w w')
  (hp:(p'.gb=(c.pl id).gb/\(Ph p' b'->Ph (c.pl id) b))\/c.w.heap.size<=p'.gb) (hb:cJ (c.aI id b' p' w') id b'):cZ (c.aI id b' p' w') w0 next:=by
 refine ⟨r.below.trans hbel,r.others (fun k hk hlt=>hother k hlt (fun hph e=>r.ge id _ hl hph (.inr (e ▸ hk)))),r.kJ,?_,?_,?_,?_⟩
 ·intro id' x hx
  by_cases hid:id=id'
  ·subst hid
   rw [ah.1] at hx;injection hx with hx;subst hx;exact hb
  ·rw [(bq hid).1] at hx
   refine cJ.evo he (bq hid).2 (fun hph=>hother _ (r.jI hx hph) ?_) (r.blk id' x hx);intro Vw hg;exact hid (r.inj id' id x _ hx hl hph Vw hg).symm
 ·intro id' x hx
  by_cases hid:id=id'
  ·subst hid;exact r.lt id _ hl
  ·rw [(bq hid).1] at hx;exact r.lt id' x hx
 ·intro id' x hx hph
  by_cases hid:id=id'
  ·subst hid
   rw [ah.1] at hx;injection hx with hx;subst hx
   rw [ah.2] at hph ⊢;show ¬c.Old p'.gb
   rcases hp with ⟨hp,hp2⟩|hp
   ·rw [hp];exact r.ge id _ hl (hp2 hph)
   ·exact r.qV hp
  ·rw [(bq hid).1] at hx
   rw [(bq hid).2] at hph ⊢;exact r.ge id' x hx hph
 ·intro id1 id2 b1 b2 h1 h2 q1 q2 hg
  by_cases h1' : id=id1
  ·by_cases h2' : id=id2
   ·omega
   ·exfalso
    subst h1';rw [ah.1] at h1;injection h1 with h1;subst h1
    rw [(bq h2').1] at h2;rw [ah.2,(bq h2').2] at hg;rw [ah.2] at q1;rw [(bq h2').2] at q2;have:=r.jI h2 q2
    rcases hp with ⟨hp,hp2⟩|hp
    ·exact h2' (r.inj id id2 _ _ hl h2 (hp2 q1) q2 (by rw [<- hp,hg]))
    ·omega
  ·rw [(bq h1').1] at h1
   by_cases h2' : id=id2
   ·exfalso
    subst h2';rw [ah.1] at h2;injection h2 with h2;subst h2
    rw [ah.2,(bq h1').2] at hg;rw [ah.2] at q2;rw [(bq h1').2] at q1;have:=r.jI h1 q1
    rcases hp with ⟨hp,hp2⟩|hp
    ·exact h1' (r.inj id id1 _ _ hl h1 (hp2 q2) q1 (by rw [<- hp,hg]))
    ·omega
   ·rw [(bq h2').1] at h2
    rw [(bq h1').2,(bq h2').2] at hg;rw [(bq h1').2] at q1;rw [(bq h2').2] at q2;exact r.inj id1 id2 b1 b2 h1 h2 q1 q2 hg
def Cx.zero (c:Cx) (next:Nat) (b:Blk):Cx:={ c with heap:=(next,b)::c.heap,pl:=fun i=>if i=next then ⟨0,0⟩ else c.pl i }
theorem A7 {c:Cx} {w0:World} {next:Nat} {b:Blk} (r:cZ c w0 next) {id:Nat} {b' : Blk} (h:look c.heap id=some b'):look (c.zero next b).heap id=some b'/\(c.zero next b).pl id=c.pl id:=by
 have:=r.lt id b' h;simp only [Cx.zero,ai];constructor
 ·rw [if_neg (by omega)];exact h
 ·rw [if_neg (by omega)]
theorem Evo.zero {c:Cx} {w0:World} {next:Nat} {b:Blk} (r:cZ c w0 next) (hb:¬Ph ⟨0,0⟩ b):Evo c (c.zero next b):=by
 refine ⟨?_,?_⟩
 ·intro b' o' hi
  refine ⟨?_,rfl⟩
  rcases hi with hi|⟨h1,h2,h3⟩
  ·exact .inl hi
  ·refine .inr ⟨h1,h2,?_⟩
   intro id blk hl hph hg;simp only [Cx.zero,ai] at hl hg hph;by_cases hid:next=id
   ·subst hid
    simp at hl hph;subst hl;exact (hb hph).elim
   ·rw [if_neg hid] at hl
    rw [if_neg (by omega)] at hg hph;exact h3 id blk hl hph hg
 ·intro id b' hb
  obtain ⟨h1,h2⟩:=A7 (b:=b) r hb;refine ⟨b',h1,?_⟩;rw [h2]
  cases b'<;>simp [c6]
theorem cZ.zero {c:Cx} {w0:World} {next:Nat} {b:Blk} (r:cZ c w0 next) (hb:¬Ph ⟨0,0⟩ b) (hr:cJ (c.zero next b) next b):cZ (c.zero next b) w0 (next+1):=by
 have he:Evo c (c.zero next b):=Evo.zero r hb;have key:∀id x,look (c.zero next b).heap id=some x->(id=next/\x=b)\/(look c.heap id=some x/\(c.zero next b).pl id=c.pl id):=by
  intro id x hl;by_cases hid:next=id
  ·subst hid
   simp only [Cx.zero,ai,if_true] at hl;injection hl with hl
   exact .inl ⟨rfl,hl.symm⟩
  ·simp only [Cx.zero,ai,if_neg hid] at hl
   exact .inr ⟨hl,(A7 (b:=b) r hl).2⟩
 have nph:¬Ph ((c.zero next b).pl next) b:=by simpa [Cx.zero] using hb
 refine ⟨r.below,r.other,r.kJ,?_,?_,?_,?_⟩
 ·intro id x hl
  rcases key id x hl with ⟨rfl,rfl⟩|⟨h1,h2⟩
  ·exact hr
  ·exact cJ.evo he h2 (fun _=>rfl) (r.blk id x h1)
 ·intro id x hl
  rcases key id x hl with ⟨rfl,rfl⟩|⟨h1,h2⟩
  ·omega
  ·have:=r.lt id x h1;omega
 ·intro id x hl hph
  rcases key id x hl with ⟨rfl,rfl⟩|⟨h1,h2⟩
  ·exact (nph hph).elim
  ·rw [h2] at hph ⊢;exact r.ge id x h1 hph
 ·intro id id' x x' hl hl' p1 p2 hg
  rcases key id x hl with ⟨rfl,rfl⟩|⟨h1,h2⟩
  ·exact (nph p1).elim
  ·rcases key id' x' hl' with ⟨rfl,rfl⟩|⟨h1',h2'⟩
   ·exact (nph p2).elim
   ·rw [h2] at p1 hg
    rw [h2'] at p2 hg;exact r.inj id id' x x' h1 h1' p1 p2 hg
theorem Rel.zero {c:Cx} {w0:World} {n:Nat} {gs:Fr} {st:St} {a:Act} (r:Rel c w0 n gs st a) {b:Blk} (hb:¬Ph ⟨0,0⟩ b) (hr:cJ (c.zero st.next b) st.next b):Rel (c.zero st.next b) w0 n gs (ep st b) a:=
 r.evo (Evo.zero r.hrel hb) (by simp [Cx.zero,ep,r.heap]) (r.hrel.zero hb hr) rfl rfl rfl (Nat.le_succ _)
end Uw
namespace Uw
open Go Go.RowKit
variable [Glob]
theorem addr_add (b o i:Nat):(⟨b,o,none⟩:Addr).add i=⟨b,o+i,none⟩:=by
 unfold Addr.add;by_cases h:i=0
 ·subst h;simp
 ·simp [h]
section
variable {P : Program} {w : World}
theorem run_bind {α β:Type} (s:Sem α) (f:α->Sem β):(s.bind f).run P w=match s.run P w with | .ok x w'=>(f x).run P w' | .halt h w'=>.halt h w':=by
 induction s generalizing w with
 | pure a=>rfl
 | load m a k ih=>
  simp only [Sem.bind,Sem.run]
  split
  ·exact ih _
  ·split
   ·exact ih _
   ·rfl
 | store m a v k ih=>
  cases v<;>simp only [Sem.bind,Sem.run]<;>(try rfl)<;>(split;(split;rfl;exact ih))<;>(split;exact ih;rfl)
 | new o k ih=>simp only [Sem.bind,Sem.run];exact ih _
 | shape r k ih=>simp only [Sem.bind,Sem.run];exact ih _
 | freeze a n k ih=>simp only [Sem.bind,Sem.run];exact ih
 | frozen a k ih=>simp only [Sem.bind,Sem.run];exact ih _
 | getObj r k ih=>
  simp only [Sem.bind,Sem.run]
  split
  ·rfl
  ·exact ih _
  ·rfl
 | setObj r o k ih=>
  simp only [Sem.bind,Sem.run]
  split
  ·rfl
  ·exact ih
  ·rfl
 | choose q k ih=>
  simp only [Sem.bind,Sem.run]
  split
  ·exact ih _
  ·exact ih _
 | sys c k ih=>simp only [Sem.bind,Sem.run];exact ih _
 | program k ih=>simp only [Sem.bind,Sem.run];exact ih _
 | mark m k ih=>simp only [Sem.bind,Sem.run];exact ih
 | halt h=>rfl
theorem run_bind_ok {α β:Type} {s:Sem α} {f:α->Sem β} {x:α} {w' : World} (h:s.run P w = .ok x w'):(s >>= f).run P w=(f x).run P w':=by
 show (s.bind f).run P w=_;rw [run_bind,h]
theorem run_load {a:Addr} {v:Value} (h:w.cell? a=some v):(load a).run P w = .ok v w:=by
 simp [load,Sem.run,h]
theorem run_loadCellsFrom {b o:Nat}:∀(n i:Nat) (acc:Array Value) (vs:List Value),vs.length=n->
  (∀j v,vs[j]? = some v->w.cell? ⟨b,o+i+j,none⟩=some v)->(loadCellsFrom ⟨b,o,none⟩ i n acc).run P w = .ok (acc++vs.toArray) w:=by
 intro n
 induction n with
 | zero=>intro i acc vs hl _;have:vs=[]:=List.eq_nil_of_length_eq_zero hl;subst this;simp [loadCellsFrom,pure]
 | succ n ih=>
  intro i acc vs hl hc
  cases vs with
  | nil=>simp at hl
  | cons v vs=>
   simp only [loadCellsFrom];rw [run_bind_ok (run_load (v:=v) (by rw [addr_add];simpa using hc 0 v rfl))];rw [ih (i+1) (acc.push v) vs (by simpa using hl) (by
    intro j u hu;have:=hc (j+1) u (by simpa using hu);rw [show o+(i+1)+j=o+i+(j+1) by omega];exact this)]
   simp
theorem run_loadCells {b o n:Nat} {vs:List Value} (hl:vs.length=n) (hc:∀j v,vs[j]? = some v->w.cell? ⟨b,o+j,none⟩=some v):(loadCells ⟨b,o,none⟩ n).run P w = .ok vs.toArray w:=by
 unfold loadCells;rw [run_loadCellsFrom n 0 #[] vs hl (by simpa using hc)];simp
theorem uA {t:TypeId} {i:TypeInfo} (h:P.info? t=some i):(typeInfo t).run P w = .ok i w:=by
 simp [typeInfo,program,Bind.bind,Sem.bind,Sem.run,h,pure]
theorem bC {t:TypeId} {d:TypeDesc} (h:P.underlying t=some d):(underlying t).run P w = .ok d w:=by
 simp [underlying,program,Bind.bind,Sem.bind,Sem.run,h,pure]
theorem eH {t:TypeId} {n:Nat} (h:sizeT P t=some n):(Go.sizeOf t).run P w = .ok n w:=by
 simp only [sizeT,Option.map_eq_some_iff] at h;obtain ⟨i,hi,rfl⟩:=h;unfold Go.sizeOf;rw [run_bind_ok (uA hi)];rfl
theorem rW {t:TypeId} {g:Bool} (h:jF P t=some g):(isAgg t).run P w = .ok g w:=by
 unfold jF at h;unfold isAgg
 split at h
 ·rename_i fs hu;simp at h;subst h;rw [run_bind_ok (bC hu)];rfl
 ·rename_i n e hu;simp at h;subst h;rw [run_bind_ok (bC hu)];rfl
 ·rename_i d h1 h2 hu
  simp at h;subst h;rw [run_bind_ok (bC hu)]
  cases d<;>first|rfl|exact (h1 _ rfl).elim|exact (h2 _ _ rfl).elim
 ·simp at h
theorem uB {t:TypeId} {zs:List Dat} (h:lH P t=some zs):∃v,(zeroValue t).run P w = .ok v w/\jD v.cells.toList=some zs:=by
 unfold lH at h
 split at h
 ·rename_i i hi
  split at h
  ·rename_i v hv
   refine ⟨v,?_,h⟩;unfold zeroValue;rw [run_bind_ok (uA hi),hv];rfl
  ·simp at h
 ·simp at h
def pack (g:Bool) (vs:List Value):Option Value:=
 match g,vs with
 | true,vs=>some (.agg vs.toArray)
 | false,[v]=>some v
 | false,_=>none
theorem nK {t:TypeId} {g:Bool} {n b o:Nat} {vs:List Value} {u:Value} (hg:jF P t=some g) (hn:sizeT P t=some n) (hl:vs.length=n) (hp:pack g vs=some u)
  (hc:∀j v,vs[j]? = some v->w.cell? ⟨b,o+j,none⟩=some v):(loadVar t ⟨b,o,none⟩).run P w = .ok u w:=by
 unfold loadVar;rw [run_bind_ok (rW hg)]
 cases g with
 | true=>
  simp only [if_true];rw [run_bind_ok (eH hn),run_bind_ok (run_loadCells hl hc)];simp [pack] at hp;subst hp;rfl
 | false=>
  simp only [Bool.false_eq_true,if_false]
  match vs,hp with
  | [v],hp=>simp [pack] at hp;subst hp;exact run_load (by simpa using hc 0 v rfl)
theorem run_store {a:Addr} {v u:Value} (hv:one v=true) (h:w.cell? a=some u) (hf:w.frozen? a=false):(store a v).run P w = .ok () (w.setCell a v):=by
 cases v<;>first|(simp [one] at hv;done)|simp [store,Sem.run,h,hf]
theorem heap_setCell {w:World} {b o:Nat} {v:Value} {vs:Array Value} {e:TypeId} (h:w.heap[b]? = some (.cells vs e (0,0))) :
  (w.setCell ⟨b,o,none⟩ v).heap[b]? = some (.cells (vs.setIfInBounds o v) e (0,0)):=by
 simp [World.setCell,Array.getElem?_modify,h]
theorem xB {b o:Nat} {vs:Array Value} {e:TypeId} (h:w.heap[b]? = some (.cells vs e (0,0))):w.frozen? ⟨b,o,none⟩=false:=by
 simp [World.frozen?,h]
theorem bY {b o:Nat} {vs:Array Value} {e:TypeId} (h:w.heap[b]? = some (.cells vs e (0,0))):w.cell? ⟨b,o,none⟩=vs[o]?:=by
 simp [World.cell?,h]
def gJ (vs:Array Value) (o:Nat):List Value->Array Value
 | []=>vs
 | v::r=>gJ (vs.setIfInBounds o v) (o+1) r
theorem mL:∀(us:List Value) (vs:Array Value) (o:Nat),(gJ vs o us).size=vs.size
 | [],vs,o=>rfl
 | u::us,vs,o=>by simp [gJ,mL us]
structure Laid (w w' : World) (b:Nat) (vs:Array Value) (e:TypeId):Prop where
 here:w'.heap[b]? = some (.cells vs e (0,0))
 other:∀b',b'≠b->w'.heap[b']? = w.heap[b']?
 size:w'.heap.size=w.heap.size
 os:w'.os=w.os
 tape:w'.tape=w.tape
 output:w'.output=w.output
theorem jJ (b o:Nat) {e:TypeId}:∀(us:List Value) (i:Nat) (vs:Array Value) (w:World),w.heap[b]? = some (.cells vs e (0,0))->o+i+us.length<=vs.size->
  (∀u∈us,one u=true)->∃w',(storeCells ⟨b,o,none⟩ us i).run P w = .ok () w'/\Laid w w' b (gJ vs (o+i) us) e
 | [],i,vs,w,h,_,_=>⟨w,by unfold storeCells;rfl,⟨h,fun _ _=>rfl,rfl,rfl,rfl,rfl⟩⟩
 | u::us,i,vs,w,h,hl,ho=>by
  simp only [List.length_cons] at hl;have hsome:∃x,w.cell? ⟨b,o+i,none⟩=some x:=by
   rw [bY h,Array.getElem?_eq_getElem (by omega)];exact ⟨_,rfl⟩
  obtain ⟨x,hx⟩:=hsome;have h1:=heap_setCell (o:=o+i) (v:=u) h;obtain ⟨w',hw',L⟩:=jJ b o us (i+1) (vs.setIfInBounds (o+i) u) (w.setCell ⟨b,o+i,none⟩ u) h1 (by simp;omega) (fun x hx=>ho x (by simp [hx]));refine ⟨w',?_,?_⟩
  ·unfold storeCells
   rw [addr_add,run_bind_ok (run_store (ho u (by simp)) hx (xB h))];exact hw'
  ·refine ⟨by rw [gJ];exact L.here,?_,L.size.trans (by simp [World.setCell]),L.os.trans rfl,L.tape.trans rfl,L.output.trans rfl⟩
   intro b' hb';rw [L.other b' hb',Below.heap_setCell _ _ _ _ hb']
theorem uC {t:TypeId} {n b o:Nat} {e:TypeId} {vs:Array Value} {u:Value} (hn:sizeT P t=some n) (hu:u.cells.size=n) (ho:∀x∈u.cells.toList,one x=true)
  (h:w.heap[b]? = some (.cells vs e (0,0))) (hl:o+n<=vs.size):∃w',(storeVar t ⟨b,o,none⟩ u).run P w = .ok () w'/\Laid w w' b (gJ vs o u.cells.toList) e:=by
 obtain ⟨w',h1,h2⟩:=jJ (P:=P) b o u.cells.toList 0 vs w h (by simp [hu];omega) ho;refine ⟨w',?_,h2⟩;unfold storeVar;rw [run_bind_ok (eH hn)];simp only [hu,ne_eq,not_true_eq_false,if_false];exact h1
end
end Uw
namespace Uw
open Go Go.RowKit
variable [Glob]
theorem x5 {c:Cx} {x:V} {v:Value} (h:aA c x v) (hx:uy x=true):one v=true:=by
 cases x with
 | agg cs=>simp [uy] at hx
 | d x=>
  cases x with
  | agg ds=>simp [uy] at hx
  | tuple ds=>simp [uy] at hx
  | slice k xs z=>rcases h with ⟨⟨_,rfl,_⟩,_⟩|⟨b,o,cap,rfl,h2⟩<;>rfl
  | iface t d=>obtain ⟨u,rfl,h2⟩:=h;rfl
  | _=>simp only [aA,aE] at h;subst h;rfl
 | ptr id off=>obtain ⟨h1,rfl⟩:=h;rfl
 | ro cs off=>obtain ⟨b,o,rfl,h2⟩:=h;rfl
 | mG id ver i cc=>
  simp only [aA] at h;unfold jG at h
  split at h
  ·obtain ⟨_,⟨x,rfl⟩,_⟩:=h;rfl
  ·exact h.elim
 | ref id ver off len=>
  simp only [aA] at h;unfold ki at h
  split at h
  ·rcases h with ⟨_,⟨rfl,_⟩|⟨b,o,cap,rfl,_⟩⟩<;>rfl
  ·obtain ⟨_,⟨x,l,cp,rfl⟩,_⟩:=h;rfl
  ·exact h.elim
 | func f fs cap=>obtain ⟨us,vs,rfl,h2⟩:=h;rfl
 | tuple ds=>simp [uy] at hx
 | hnd id=>
  simp only [aA] at h;unfold fq at h
  split at h
  ·subst h;rfl
  ·subst h;rfl
  ·exact h.elim
 | row id len=>obtain ⟨h1,rfl,h3⟩:=h;rfl
 | undef=>simp [uy] at hx
theorem ax.get {c:Cx}:∀{xs:List V} {vs:List Value},ax c xs vs->∀(i:Nat) (x:V),xs[i]? = some x->∃v,vs[i]? = some v/\aA c x v:=by
 intro xs
 induction xs with
 | nil=>intro vs _ i x h;simp at h
 | cons y ys ih=>
  intro vs hh i x h;obtain ⟨v,vs',rfl,h2,h3⟩:=hh
  cases i with
  | zero=>simp at h;subst h;exact ⟨v,rfl,h2⟩
  | succ i=>simp at h;simpa using ih h3 i x h
theorem ax.get' {c:Cx}:∀{xs:List V} {vs:List Value},ax c xs vs->∀(i:Nat) (v:Value),vs[i]? = some v->∃x,xs[i]? = some x/\aA c x v:=by
 intro xs
 induction xs with
 | nil=>intro vs hh i x h;simp [ax] at hh;subst hh;simp at h
 | cons y ys ih=>
  intro vs hh i u h;obtain ⟨v,vs',rfl,h2,h3⟩:=hh
  cases i with
  | zero=>simp at h;subst h;exact ⟨y,rfl,h2⟩
  | succ i=>simp at h;simpa using ih h3 i u h
theorem ax.drop {c:Cx}:∀{xs:List V} {vs:List Value},ax c xs vs->∀n,ax c (xs.drop n) (vs.drop n):=by
 intro xs
 induction xs with
 | nil=>intro vs hh n;simp [ax] at hh;subst hh;simp [ax]
 | cons y ys ih=>
  intro vs hh n;obtain ⟨v,vs',rfl,h2,h3⟩:=hh
  cases n with
  | zero=>exact ⟨v,vs',rfl,h2,h3⟩
  | succ n=>simpa using ih h3 n
theorem ax.take {c:Cx}:∀{xs:List V} {vs:List Value},ax c xs vs->∀n,ax c (xs.take n) (vs.take n):=by
 intro xs
 induction xs with
 | nil=>intro vs hh n;simp [ax] at hh;subst hh;simp [ax]
 | cons y ys ih=>
  intro vs hh n;obtain ⟨v,vs',rfl,h2,h3⟩:=hh
  cases n with
  | zero=>simp [ax]
  | succ n=>exact ⟨v,vs'.take n,rfl,h2,ih h3 n⟩
theorem ax.set {c:Cx}:∀{xs:List V} {vs:List Value},ax c xs vs->∀(i:Nat) {x:V} {v:Value},aA c x v->ax c (xs.set i x) (vs.set i v):=by
 intro xs
 induction xs with
 | nil=>intro vs hh i x v _;simp [ax] at hh;subst hh;simp [ax]
 | cons y ys ih=>
  intro vs hh i x v h;obtain ⟨u,vs',rfl,h2,h3⟩:=hh
  cases i with
  | zero=>exact ⟨v,vs',rfl,h,h3⟩
  | succ i=>exact ⟨u,vs'.set i v,rfl,h2,ih h3 i h⟩
theorem ax.setAt {c:Cx}:∀{ys:List V} {us:List Value},ax c ys us->∀{xs:List V} {vs:Array Value} (i:Nat),ax c xs vs.toList->ax c (setAt xs i ys) (gJ vs i us).toList:=by
 intro ys
 induction ys with
 | nil=>intro us h xs vs i hx;simp [ax] at h;subst h;simpa [Uw.setAt,gJ] using hx
 | cons y ys ih=>
  intro us h xs vs i hx;obtain ⟨u,us',rfl,h2,h3⟩:=h;rw [Uw.setAt,gJ];refine ih h3 (i+1) ?_;rw [Array.toList_setIfInBounds];exact ax.set hx i h2
theorem oY {c:Cx} {g:Bool} {xs:List V} {vs:List Value} {x:V} (h:ax c xs vs) (hx:qq g xs=some x):∃u,pack g vs=some u/\aA c x u:=by
 cases g with
 | true=>simp [qq] at hx;subst hx;exact ⟨_,rfl,vs,rfl,h⟩
 | false=>
  match xs,hx,h with
  | [y],hx,h=>
   simp [qq] at hx;subst hx;obtain ⟨v,vs',rfl,h2,h3⟩:=h;simp [ax] at h3;subst h3;exact ⟨v,rfl,h2⟩
theorem A8 {g:Bool} {xs:List V} {x:V} (h:qq false xs=some x):xs.length=1:=by
 match xs,h with
 | [y],_=>rfl
theorem dO.get {w:World} {J:Nat->Nat->Prop} {b:Nat}:∀{ds:List Dat} {o:Nat},dO w J b o ds->∀i d,ds[i]? = some d->∃v,w.cell? ⟨b,o+i,none⟩=some v/\J b (o+i)/\aE w J d v
 | [],o,_,i,d,h=>by simp at h
 | x::xs,o,⟨⟨v,h1,h2,_,h3⟩,h4⟩,i,d,h=>by
  cases i with
  | zero=>simp at h;subst h;exact ⟨v,h1,h2,h3⟩
  | succ i=>
   simp at h;have:=dO.get h4 i d h
   rwa [show o+1+i=o+(i+1) by omega] at this
theorem dO.vals {w:World} {J:Nat->Nat->Prop} {b:Nat}:∀{ds:List Dat} {o:Nat},dO w J b o ds->∃vs:List Value,aX w J ds vs/\∀j v,vs[j]? = some v->w.cell? ⟨b,o+j,none⟩=some v
 | [],o,_=>⟨[],rfl,by simp⟩
 | x::xs,o,⟨⟨v,h1,h2,_,h3⟩,h4⟩=>by
  obtain ⟨vs,g1,g2⟩:=dO.vals h4;refine ⟨v::vs,⟨v,vs,rfl,h3,g1⟩,?_⟩;intro j u hu
  cases j with
  | zero=>simp at hu;subst hu;exact h1
  | succ j=>
   simp at hu;have:=g2 j u hu
   rwa [show o+1+j=o+(j+1) by omega] at this
theorem dO.drop {w:World} {J:Nat->Nat->Prop} {b:Nat}:∀{ds:List Dat} {o:Nat},dO w J b o ds->∀n,dO w J b (o+n) (ds.drop n)
 | ds,o,h,0=>by simpa using h
 | [],o,h,n+1=>by simp [dO]
 | x::xs,o,⟨_,h4⟩,n+1=>by
  have:=dO.drop h4 n;rw [show o+1+n=o+(n+1) by omega] at this;simpa using this
theorem dO.take {w:World} {J:Nat->Nat->Prop} {b:Nat}:∀{ds:List Dat} {o:Nat},dO w J b o ds->∀n,dO w J b o (ds.take n)
 | ds,o,h,0=>by simp [dO]
 | [],o,h,n+1=>by simp [dO]
 | x::xs,o,⟨h1,h4⟩,n+1=>⟨h1,dO.take h4 n⟩
theorem cB.get {w:World} {J:Nat->Nat->Prop} {b k:Nat}:∀{xs:List (List Dat)} {o:Nat},cB w J b k o xs->∀i x,xs[i]? = some x->x.length=k/\dO w J b (o+i * k) x
 | [],o,_,i,d,h=>by simp at h
 | y::ys,o,⟨h1,h2,h3⟩,i,d,h=>by
  cases i with
  | zero=>simp at h;subst h;exact ⟨h1,by simpa using h2⟩
  | succ i=>
   simp at h;have:=cB.get h3 i d h
   rwa [show o+k+i * k=o+(i+1) * k by rw [Nat.add_mul];omega] at this
theorem aA.fD {c:Cx} {d:Dat} {v:Value} (h:aE c.w (Imm c) d v):aA c (V.fD d) v:=by
 cases d with
 | agg ds=>obtain ⟨vs,rfl,h2⟩:=h;exact ⟨vs,rfl,ax.ofL h2⟩
 | tuple ds=>
  obtain ⟨vs,rfl,h2⟩:=h;refine ⟨vs,rfl,?_⟩
  induction ds generalizing vs with
  | nil=>simpa [aX,ax] using h2
  | cons x xs ih=>
   obtain ⟨v,vs',rfl,g1,g2⟩:=h2;refine ⟨v,vs',rfl,?_,ih vs' g2⟩
   cases x with
   | agg ds=>obtain ⟨us,rfl,h2⟩:=g1;exact ⟨us,rfl,ax.ofL h2⟩
   | _=>exact g1
 | _=>exact h
theorem wrap_in {k:IntKind} {n:Int} (h:inR k n=true):k.wrap n=n:=by
 cases k<;>simp [inR] at h<;>simp [IntKind.wrap,IntKind.bits,IntKind.signed]<;>omega
theorem yt {P:Program} {Q:aH->St->Prop} {k:IntKind} {n:Int} {q:Int->Tree} (h:WT P Q (fit k n q)):WT P Q (q (k.wrap n)):=by
 unfold fit at h;simp only [WT] at h
 cases hb:inR k n with
 | true=>have:=h.1 hb;rwa [wrap_in hb]
 | false=>exact h.2 hb
theorem rX {c:Cx} {id ver off len k:Nat} {xs:List (List Dat)} {gv:Value} (hl:look c.heap id=some (.arr k xs)) (h:aA c (.ref id ver off len) gv):aE c.w (Imm c) (.slice k ((xs.drop off).take len) false) gv:=by
 simp only [aA,hl] at h;obtain ⟨h1,h⟩:=h;have hlen:((xs.drop off).take len).length=len:=by simp;omega
 rcases h with ⟨h2,h3,_⟩|⟨b,o,cap,h2,h3,h4,_⟩
 ·exact .inl ⟨⟨_,h2,by simp⟩,List.eq_nil_of_length_eq_zero (by omega)⟩
 ·exact .inr ⟨b,o,cap,by rw [hlen];exact h2,by rw [hlen];exact h3,by simp,h4⟩
theorem Jh {c:Cx}:∀{vs:List V} {ds:List Dat} {us:List Value},V.dat.go c.heap vs=some ds->ax c vs us->aX c.w (Imm c) ds us:=by
 intro vs
 induction vs with
 | nil=>intro ds us h r;simp [V.dat.go] at h;subst h;simpa [aX,ax] using r
 | cons v vs ih=>
  intro ds us h r;obtain ⟨u,us',rfl,r1,r2⟩:=r;unfold V.dat.go at h
  split at h
  ·simp at *
  ·rename_i x rr heq
   simp only [List.cons.injEq] at heq;obtain ⟨rfl,rfl⟩:=heq
   split at h
   ·rename_i l hl
    simp at h;subst h;exact ⟨u,us',rfl,r1,ih hl r2⟩
   ·simp at h
  ·rename_i id ver off len rr heq
   simp only [List.cons.injEq] at heq;obtain ⟨rfl,rfl⟩:=heq
   split at h
   ·rename_i k xs l hl1 hl2
    simp at h;subst h;exact ⟨u,us',rfl,rX hl1 r1,ih hl2 r2⟩
   ·simp at h
  ·rename_i f rr heq
   simp only [List.cons.injEq] at heq;obtain ⟨rfl,rfl⟩:=heq
   split at h
   ·rename_i l hl
    simp at h;subst h;obtain ⟨fs',vs',e1,e3,e2⟩:=r1;simp [ax] at e2 e3;subst e2 e3;exact ⟨u,us',rfl,e1,ih hl r2⟩
   ·simp at h
  ·simp at h
theorem x6 {c:Cx} {v:V} {x:Dat} {gv:Value} (h:v.dat c.heap=some x) (r:aA c v gv):aE c.w (Imm c) x gv:=by
 cases v with
 | d y=>simp [V.dat] at h;subst h;exact r
 | agg cs=>
  simp only [V.dat,Option.map_eq_some_iff] at h;obtain ⟨ds,h1,rfl⟩:=h;obtain ⟨us,rfl,h2⟩:=r;exact ⟨us,rfl,Jh h1 h2⟩
 | ref id ver off len=>
  simp only [V.dat] at h
  split at h
  ·rename_i k xs hl
   simp at h;subst h;exact rX hl r
  ·simp at h
 | func f fs cap=>
  cases fs with
  | cons a b=>simp [V.dat] at h
  | nil=>
   cases cap with
   | nil=>
    simp [V.dat] at h;subst h;obtain ⟨fs',vs',e1,e3,e2⟩:=r;simp [ax] at e2 e3;subst e2 e3;exact e1
   | cons a b=>simp [V.dat] at h
 | _=>simp [V.dat] at h
theorem nM {c:Cx}:∀{vs:List V} {ds:List Dat} {us:List Value},lX c.heap vs=some ds->ax c vs us->aX c.w (Imm c) ds us:=by
 intro vs
 induction vs with
 | nil=>intro ds us h r;simp [lX] at h;subst h;simpa [aX,ax] using r
 | cons v vs ih=>
  intro ds us h r;obtain ⟨u,us',rfl,r1,r2⟩:=r;unfold lX at h
  split at h
  ·rename_i x l h1 h2
   simp at h;subst h;exact ⟨u,us',rfl,x6 h1 r1,ih h2 r2⟩
  ·simp at h
end Uw
namespace Uw
open Go Go.RowKit
variable [Glob]
def bn (P:Program) (Q:aH->St->Prop) (q:V->St->Tree) (c:Cx) (w0:World) (n:Nat) (gs:Fr) (st:St) (a:Act) (dst:Option Tmp) (K:Act->World->Prop):Prop:=
 ∀c' st' v gv,c'.B=c.B->c'.J0=c.J0->Rel c' w0 n gs st' a->st'.regs=st.regs->aA c' v gv->WT P Q (q v st')->K (a.put dst gv) c'.w
section
variable {P : Program} {Q : aH -> St -> Prop} {q : V -> St -> Tree} {c : Cx} {w0 : World} {n : Nat} {gs : Fr} {st : St} {a : Act} {K : Act -> World -> Prop} {Qx : Exit -> Act -> World -> Prop} {o : Oper}
theorem aK (r:Rel c w0 n gs st a) (hK:bn P Q q c w0 n gs st a o.dst K) {v:V} {gv:Value} (hv:aA c v gv) (hq:WT P Q (q v st)) (h:(execOp a.eval o).run P c.w = .ok (.value gv) c.w):o.wp P a c.w K Qx:=
 ca h (hK c st v gv rfl rfl r rfl hv hq)
theorem KN (r:Rel c w0 n gs st a) (hK:bn P Q q c w0 n gs st a o.dst K) {x:Operand} {y:Opd} (ho:o.op = .move x\/o.op = .assign x) (hc:al x=some y)
  (h:WT P Q (match y.ev st with|some v=>q v st|none=>.fail)):o.wp P a c.w K Qx:=by
 cases hv:y.ev st with
 | none=>rw [hv] at h;exact h.elim
 | some v=>
  rw [hv] at h;refine aK r hK (aD r hc hv) h ?_
  rcases ho with ho|ho<;>simp [execOp,ho,pure,Sem.run]
theorem NJ (r:Rel c w0 n gs st a) (hK:bn P Q q c w0 n gs st a o.dst K) {x1 x2 x3:Operand} {y1 y2 y3:Opd} (ho:o.op = .pick x1 x2 x3) (h1:al x1=some y1) (h2:al x2=some y2) (h3:al x3=some y3)
  {xx:aH->St->Tree} (h:WT P Q (step (.pick y1 y2 y3) st q xx)):o.wp P a c.w K Qx:=by
 simp only [step,aj,au,av] at h
 split at h
 ·rename_i t ht
  have e1:=aD r h1 ht;simp only [aA,aE] at e1;obtain ⟨g1,g2⟩:=h;have key:∀b:Bool,t=b->o.wp P a c.w K Qx:=by
   intro b hb
   cases b with
   | true=>
    have g:=g1 hb
    cases hv:y2.ev st with
    | none=>rw [hv] at g;exact g.elim
    | some v=>
     rw [hv] at g;refine aK r hK (aD r h2 hv) g ?_;simp [execOp,ho,e1,hb,asBool,pure,Bind.bind,Sem.bind,Sem.run]
   | false=>
    have g:=g2 hb
    cases hv:y3.ev st with
    | none=>rw [hv] at g;exact g.elim
    | some v=>
     rw [hv] at g;refine aK r hK (aD r h3 hv) g ?_;simp [execOp,ho,e1,hb,asBool,pure,Bind.bind,Sem.bind,Sem.run]
  exact key t rfl
 ·exact h.elim
theorem uD (r:Rel c w0 n gs st a) {cs:List V} {vs:Array Value} {e:TypeId} (h:ax c cs vs.toList) :
  Rel (c.push st.next 0 (.var cs) (.cells vs e)) w0 n gs (ep st (.var cs)) a:=
 r.push (by
  refine ⟨vs,e,?_,ax.evo (Evo.push r.hrel) _ _ h⟩;show (c.w.heap.push (.cells vs e))[((c.push st.next 0 (.var cs) (.cells vs e)).pl st.next).gb]? = _;simp [Cx.push])
theorem ED (st:St) (cs:List V) (o:Obj):aA (c.push st.next 0 (.var cs) o) (.ptr st.next 0) (.pointer (some ⟨c.w.heap.size,0,none⟩)):=by
 refine ⟨⟨cs,by simp [Cx.push,ai]⟩,?_⟩;simp [Cx.push]
theorem Rk (r:Rel c w0 n gs st a) (hK:bn P Q q c w0 n gs st a o.dst K) {t:TypeId} {x:Operand} {y:Opd} (ho:o.op = .box t x) (hc:al x=some y)
  {xx:aH->St->Tree} (h:WT P Q (step (.box y) st q xx)):o.wp P a c.w K Qx:=by
 simp only [step,aj,au,av] at h
 split at h
 ·rename_i v hv
  have e1:=mA (aD r hc hv) (wK hv);refine ca (w':=c.w.alloc (.cells (a.eval x).cells t)) ?_ (hK (c.push st.next 0 (.var v.cells) (.cells (a.eval x).cells t)) _ _ _ rfl rfl (uD r e1) rfl (ED st _ _) h);simp [execOp,ho,Instr.box,newVar,newRow,newObj,pure,Bind.bind,Sem.bind,Sem.run]
 ·exact h.elim
theorem KO (r:Rel c w0 n gs st a) (hK:bn P Q q c w0 n gs st a o.dst K) {t:TypeId} {zs:List Dat} (ho:o.op = .alloc t) (hz:lH P t=some zs)
  {xx:aH->St->Tree} (h:WT P Q (step (.alloc zs) st q xx)):o.wp P a c.w K Qx:=by
 simp only [step,aj,au,av] at h;obtain ⟨v,hv,hd⟩:=uB (w:=c.w) hz;refine ca (w':=c.w.alloc (.cells v.cells t)) ?_ (hK (c.push st.next 0 (.var (zs.map V.d)) (.cells v.cells t)) _ _ _ rfl rfl (uD r (ax.ofL (fH hd _ _))) rfl (ED st _ _) h);have:(Instr.alloc t true (.tuple #[])).run P c.w = .ok (.pointer (some ⟨c.w.heap.size,0,none⟩)) (c.w.alloc (.cells v.cells t)):=by
  unfold Instr.alloc;rw [run_bind_ok hv];simp [newVar,newRow,newObj,pure,Bind.bind,Sem.bind,Sem.run]
 simp only [execOp,ho];rw [run_bind_ok this];rfl
end
end Uw
namespace Uw
open Go Go.RowKit
variable [Glob]
theorem vM (off:Nat):∀(us:List Value) (j:Nat) (cs:Array Value),(us.zipIdx j).foldl (fun cs (p:Value×Nat)=>cs.setIfInBounds (off+p.2) p.1) cs=gJ cs (off+j) us
 | [],j,cs=>rfl
 | u::us,j,cs=>by
  rw [List.zipIdx_cons,List.foldl_cons,vM off us (j+1),gJ];rfl
theorem ax.kj {c:Cx} {x:V} {v:Value} (h:aA c x v) (hx:x≠.undef):v.cells.size=x.cells.length:=by
 have:=(mA h hx).length;simpa using this
section
variable {P : Program} {Q : aH -> St -> Prop} {q : V -> St -> Tree} {c : Cx} {w0 : World} {n : Nat} {gs : Fr} {st : St} {a : Act} {K : Act -> World -> Prop} {Qx : Exit -> Act -> World -> Prop} {o : Oper} {xx : aH -> St -> Tree}
theorem EE (r:Rel c w0 n gs st a) {place:Nat->Option (Nat×Nat)}:∀(ps:List (Nat×Operand)) (qs:List (Nat×Nat×Opd)) (cs cs' : List V) (vs:Array Value),jr place ps=some qs->
  ax c cs vs.toList->eD st cs qs=some cs'->∃vs',Instr.fill place vs (ps.map fun (i,x)=>(i,a.eval x))=some vs'/\ax c cs' vs'.toList:=by
 intro ps
 induction ps with
 | nil=>
  intro qs cs cs' vs h1 h2 h3;simp [jr] at h1;subst h1;simp [eD] at h3;subst h3;exact ⟨vs,rfl,h2⟩
 | cons p ps ih=>
  intro qs cs cs' vs h1 h2 h3;obtain ⟨i,x⟩:=p;simp only [jr] at h1
  split at h1
  ·rename_i off n' o' l hp ho hl
   simp at h1;subst h1;simp only [eD] at h3
   split at h3
   ·rename_i v hv
    split at h3
    ·rename_i hb
     rw [Bool.and_eq_true] at hb;have hb1:=Nat.eq_of_beq_eq_true hb.1;have hb2:=Nat.le_of_ble_eq_true hb.2;have hr:=aD r ho hv;have hcl:=ax.kj hr (wK hv);have hlen:=h2.length;obtain ⟨vs',g1,g2⟩:=ih l _ cs' (gJ vs off (a.eval x).cells.toList) hl (ax.setAt (mA hr (wK hv)) off h2) h3;refine ⟨vs',?_,g2⟩;simp only [List.map_cons,Instr.fill,hp];have hsz:vs.size=cs.length:=by simpa using hlen
     rw [if_neg (by simp;omega)];have e:=vM off (a.eval x).cells.toList 0 vs;simp only [Nat.add_zero] at e;rw [<- Array.foldl_toList,Array.toList_zipIdx,e];exact g1
    ·simp at h3
   ·simp at h3
  ·simp at h1
theorem KP (r:Rel c w0 n gs st a) (hK:bn P Q q c w0 n gs st a o.dst K) {t:TypeId} {ps:Array (Nat×Operand)} {place:Nat->Option (Nat×Nat)} {zs:List Dat} {qs:List (Nat×Nat×Opd)} (ho:o.op = .build t ps)
  (hp:G4 P t=some place) (hz:lH P t=some zs) (hq:jr place ps.toList=some qs) (h:WT P Q (step (.build zs qs) st q xx)):o.wp P a c.w K Qx:=by
 simp only [step,aj,au,av] at h
 split at h
 ·rename_i cs hcs
  unfold lH at hz
  split at hz
  ·rename_i i hi
   split at hz
   ·rename_i z hzero
    obtain ⟨vs',g1,g2⟩:=EE r ps.toList qs _ cs z.cells hq (ax.ofL (fH hz _ _)) hcs;have hb:P.built t (ps.map fun (i,x)=>(i,a.eval x)).toList=some vs':=by
     unfold Program.built;unfold G4 at hp;rw [hi] at hp ⊢
     split at hp
     ·rename_i e hu h2
      split at hp
      ·rename_i ie hie
       simp at hp;subst hp;simp only [h2,hzero,hie];simpa using g1
      ·simp at hp
     ·rename_i fs hu h2
      split at hp
      ·rename_i places hpl
       simp at hp;subst hp;simp only [h2,hzero,hpl];simpa using g1
      ·simp at hp
     ·simp at hp
    refine aK r hK (v:=.agg cs) (gv:=.agg vs') ⟨vs'.toList,by simp,g2⟩ h ?_;simp only [execOp,ho];rw [run_bind_ok (run_build c.w t _ vs' hb)];rfl
   ·simp at hz
  ·simp at hz
 ·exact h.elim
theorem tz {t:TypeId} {v:Value} {b o:Nat} {u:Value} {w:World} (hv:v = .pointer (some ⟨b,o,none⟩)) (h:(loadVar t ⟨b,o,none⟩).run P w = .ok u w):(Instr.loadAt t v).run P w = .ok u w:=by
 subst hv;unfold Instr.loadAt;rw [run_bind_ok (s:=Instr.sureAddr _) (x:=⟨b,o,none⟩) (w':=w) rfl];exact h
theorem aX.drop {w:World} {J:Nat->Nat->Prop}:∀{xs:List Dat} {vs:List Value},aX w J xs vs->∀n,aX w J (xs.drop n) (vs.drop n):=by
 intro xs
 induction xs with
 | nil=>intro vs hh n;simp [aX] at hh;subst hh;simp [aX]
 | cons y ys ih=>
  intro vs hh n;obtain ⟨v,vs',rfl,h2,h3⟩:=hh
  cases n with
  | zero=>exact ⟨v,vs',rfl,h2,h3⟩
  | succ n=>simpa using ih h3 n
theorem aX.take {w:World} {J:Nat->Nat->Prop}:∀{xs:List Dat} {vs:List Value},aX w J xs vs->∀n,aX w J (xs.take n) (vs.take n):=by
 intro xs
 induction xs with
 | nil=>intro vs hh n;simp [aX] at hh;subst hh;simp [aX]
 | cons y ys ih=>
  intro vs hh n;obtain ⟨v,vs',rfl,h2,h3⟩:=hh
  cases n with
  | zero=>simp [aX]
  | succ n=>exact ⟨v,vs'.take n,rfl,h2,ih h3 n⟩
theorem tA {α:Type} {k:Nat}:∀{xs:List (List α)} (h:∀x∈xs,x.length=k) {i:Nat} {cs:List α},xs[i]? = some cs->(xs.flatten.drop (i * k)).take k=cs
 | [],_,i,cs,hi=>by simp at hi
 | x::xs,h,i,cs,hi=>by
  have hx:=h x (by simp)
  cases i with
  | zero=>simp at hi;subst hi;simp [hx]
  | succ i=>
   simp at hi;rw [List.flatten_cons,show (i+1) * k=k+i * k by rw [Nat.add_mul];omega,<- hx,List.drop_length_add_append];have:=tA (fun y hy=>h y (by simp [hy])) hi;rw [hx];exact this
theorem fE {α:Type} {k:Nat}:∀{xs:List (List α)} (h:∀x∈xs,x.length=k),xs.flatten.length=xs.length * k
 | [],_=>by simp
 | x::xs,h=>by
  rw [List.flatten_cons,List.length_append,h x (by simp),fE (fun y hy=>h y (by simp [hy])),List.length_cons,Nat.add_mul];omega
theorem KQ {w:World} {J:Nat->Nat->Prop} {b:Nat} {vs:Array Value} {e:TypeId} {cap k i:Nat} {xs:List (List Dat)} {cs:List Dat} (h1:w.heap[b]? = some (.cells vs e (0,0))) (h2:vs.size=cap * k) (h3:xs.length<=cap) (h4:∀x∈xs,x.length=k)
  (h5:aX w J xs.flatten (vs.toList.take (xs.length * k))) (hi:xs[i]? = some cs):∃us:List Value,aX w J cs us/\∀j v,us[j]? = some v->w.cell? ⟨b,i * k+j,none⟩=some v:=by
 have h6:=(h5.drop (i * k)).take k;rw [tA h4 hi] at h6;refine ⟨_,h6,?_⟩;intro j v hv;rw [bY h1];rw [List.getElem?_take] at hv
 split at hv
 ·rw [List.getElem?_drop,List.getElem?_take] at hv
  split at hv
  ·simpa using hv
  ·simp at hv
 ·simp at hv
theorem Ij (r:Rel c w0 n gs st a) (hK:bn P Q q c w0 n gs st a o.dst K) {t:TypeId} {x:Operand} {y:Opd} {g:Bool} {m:Nat} (ho:o.op = .load t x) (hg:jF P t=some g) (hm:sizeT P t=some m) (hc:al x=some y)
  (h:WT P Q (step (.load g m y) st q xx)):o.wp P a c.w K Qx:=by
 simp only [step,aj,au,av] at h
 split at h
 ·rename_i id off hv
  split at h
  ·rename_i cs hl
   split at h
   ·rename_i hle
    have hle:=Nat.le_of_ble_eq_true hle
    split at h
    ·rename_i v hmk
     have e1:=aD r hc hv;obtain ⟨⟨cs0,e2⟩,e3⟩:=e1;have hl' : look c.heap id=some (.var cs):=by rw [r.heap];exact hl
     obtain ⟨vs,e,h1,h2⟩:=r.hrel.blk id _ hl';have hlen:=h2.length;have h3:=(h2.drop off).take m;obtain ⟨u,hu,hru⟩:=oY h3 hmk;refine aK r hK hru h ?_;simp only [execOp,ho];rw [run_bind_ok (tz e3 (nK hg hm ?_ hu ?_))]
     ·rfl
     ·simp at hlen ⊢;omega
     ·intro j x hx
      rw [bY h1];rw [List.getElem?_take] at hx
      split at hx
      ·simpa using hx
      ·simp at hx
    ·exact h.elim
   ·exact h.elim
  ·exact h.elim
 ·rename_i cs off hv
  split at h
  ·rename_i hle
   have hle:=Nat.le_of_ble_eq_true hle
   split at h
   ·rename_i v hmk
    have e1:=aD r hc hv;obtain ⟨b,o',e2,e3⟩:=e1;obtain ⟨vs,g1,g2⟩:=dO.vals ((e3.drop off).take m);obtain ⟨u,hu,hru⟩:=oY (ax.ofL g1) hmk;refine aK r hK hru h ?_;simp only [execOp,ho];rw [run_bind_ok (tz e2 (nK hg hm ?_ hu g2))]
    ·rfl
    ·rw [g1.length];simp;omega
   ·exact h.elim
  ·exact h.elim
 ·rename_i id ver i cc hv
  split at h
  ·rename_i k dE xs hl
   simp only [WT] at h
   cases hbv:Nat.beq ver dE with
   | false=>exact (h.2 hbv).elim
   | true=>
    have hg:=h.1 hbv;clear h;have hb:=Nat.eq_of_beq_eq_true hbv;subst hb;obtain ⟨cs,hcs,h⟩:=hg
    split at h
    ·rename_i hle
     have hle:=Nat.le_of_ble_eq_true hle
     split at h
     ·rename_i v hmk
      have e1:=aD r hc hv;have hl' : look c.heap id=some (.mt k ver xs):=by rw [r.heap];exact hl
      simp only [aA,hl'] at e1;obtain ⟨_,_,e2⟩:=e1;obtain ⟨e3,e4⟩:=e2 rfl;obtain ⟨b3,b4,bb⟩:=r.hrel.blk id _ hl';obtain ⟨vs,e,b1,b2,b5,b6⟩:=bb (by omega);obtain ⟨us,g1,g2⟩:=KQ b1 b2 b3 b4 b5 hcs;have g3:aX c.w (Imm c) ((cs.drop cc).take m) ((us.drop cc).take m):=(g1.drop cc).take m;obtain ⟨u,hu,hru⟩:=oY (ax.ofL g3) hmk;refine aK r hK hru h ?_;simp only [execOp,ho];rw [run_bind_ok (tz e4 (nK hg hm ?_ hu ?_))]
      ·rfl
      ·rw [g3.length];simp;omega
      ·intro j x hx
       rw [List.getElem?_take] at hx
       split at hx
       ·rw [List.getElem?_drop] at hx
        have:=g2 (cc+j) x hx;rw [show i * k+cc+j=i * k+(cc+j) by omega];exact this
       ·simp at hx
     ·exact h.elim
    ·exact h.elim
  ·exact h.elim
 ·exact h.elim
theorem Laid.below {w w' : World} {b:Nat} {vs:Array Value} {e:TypeId} (h:Laid w w' b vs e) {B:Nat} (hB:B<=b):Below B w w':=
 ⟨h.os,h.tape,h.output,by rw [h.size];exact Nat.le_refl _,fun k hk=>h.other k (by omega)⟩
theorem fJ {α:Type}:∀(ys xs:List α) (i:Nat),(setAt xs i ys).length=xs.length
 | [],xs,i=>rfl
 | y::ys,xs,i=>by rw [setAt,fJ ys];simp
theorem oZ {α:Type} {x:α}:∀{ys xs:List α} {i:Nat},x∈setAt xs i ys->x∈xs\/x∈ys
 | [],xs,i,h=>.inl h
 | y::ys,xs,i,h=>by
  rw [setAt] at h
  rcases oZ h with h|h
  ·rcases List.mem_or_eq_of_mem_set h with h|h
   ·exact .inl h
   ·exact .inr (by simp [h])
  ·exact .inr (by simp [h])
theorem fK:∀(us:List Value) (vs:Array Value) (o:Nat),(gJ vs o us).toList=setAt vs.toList o us
 | [],vs,o=>rfl
 | u::us,vs,o=>by rw [gJ,setAt,fK us,Array.toList_setIfInBounds]
theorem jt {α:Type}:∀(ys xs:List α) (i j:Nat),(setAt xs i ys)[j]? = if i<=j/\j<i+ys.length/\j<xs.length then ys[j - i]? else xs[j]?
 | [],xs,i,j=>by rw [setAt,if_neg (by simp;omega)]
 | y::ys,xs,i,j=>by
  rw [setAt,jt ys];simp only [List.length_set,List.getElem?_set,List.length_cons];by_cases h1:i=j
  ·subst h1
   by_cases h2:i<xs.length
   ·simp [h2];omega
   ·simp [h2]
  ·by_cases h2:i+1<=j/\j<i+1+ys.length/\j<xs.length
   ·rw [if_pos h2,if_pos (by omega),show j - i=(j - (i+1))+1 by omega];simp
   ·rw [if_neg h2,if_neg h1,if_neg (by omega)]
theorem aX.setAt {w:World} {J:Nat->Nat->Prop} {xs ys:List Dat} {vs us:List Value} (h:aX w J xs vs) (h2:aX w J ys us) (i:Nat):aX w J (setAt xs i ys) (Uw.setAt vs i us):=by
 have set1:∀{xs:List Dat} {vs:List Value},aX w J xs vs->∀(i:Nat) {x:Dat} {v:Value},aE w J x v->aX w J (xs.set i x) (vs.set i v):=by
  intro xs
  induction xs with
  | nil=>intro vs hh i x v _;simp [aX] at hh;subst hh;simp [aX]
  | cons y ys ih=>
   intro vs hh i x v h;obtain ⟨u,vs',rfl,h2,h3⟩:=hh
   cases i with
   | zero=>exact ⟨v,vs',rfl,h,h3⟩
   | succ i=>exact ⟨u,vs'.set i v,rfl,h2,ih h3 i h⟩
 induction ys generalizing xs vs us i with
 | nil=>simp [aX] at h2;subst h2;simpa [Uw.setAt] using h
 | cons y ys ih=>
  obtain ⟨u,us',rfl,g1,g2⟩:=h2;rw [Uw.setAt,Uw.setAt];exact ih (set1 h i g1) g2 (i+1)
theorem qW {α:Type} {k:Nat}:∀{xs:List (List α)} (h:∀x∈xs,x.length=k) {i cc:Nat} {cs ds:List α},xs[i]? = some cs->cc+ds.length<=k->(xs.set i (setAt cs cc ds)).flatten=setAt xs.flatten (i * k+cc) ds:=by
 intro xs h i cc cs ds hi hle;have hsl:(setAt cs cc ds).length=cs.length:=fJ _ _ _;have hcs:cs.length=k:=h cs (List.mem_of_getElem? hi);apply List.ext_getElem?;intro j;rw [jt]
 induction xs generalizing i j with
 | nil=>simp at hi
 | cons x xs ih=>
  have hx:=h x (by simp);have hxs:∀y∈xs,y.length=k:=fun y hy=>h y (by simp [hy])
  cases i with
  | zero=>
   simp at hi;subst hi;simp only [List.set_cons_zero,List.flatten_cons,Nat.zero_mul,Nat.zero_add];by_cases hj:j<k
   ·rw [List.getElem?_append_left (by omega),jt]
    by_cases hc:cc<=j/\j<cc+ds.length
    ·rw [if_pos ⟨hc.1,hc.2,by omega⟩,if_pos ⟨hc.1,hc.2,by simp;omega⟩]
    ·rw [if_neg (by omega),if_neg (by omega),List.getElem?_append_left (by omega)]
   ·rw [List.getElem?_append_right (by omega),if_neg (by omega),List.getElem?_append_right (by omega),hsl]
  | succ i=>
   simp at hi;simp only [List.set_cons_succ,List.flatten_cons];have e:(i+1) * k=k+i * k:=by rw [Nat.add_mul];omega
   by_cases hj:j<k
   ·rw [List.getElem?_append_left (by omega),if_neg (by omega),List.getElem?_append_left (by omega)]
   ·rw [List.getElem?_append_right (by omega),ih hxs hi (j - x.length)]
    simp only [List.length_append];by_cases hc:i * k+cc<=j - x.length/\j - x.length<i * k+cc+ds.length/\j - x.length<xs.flatten.length
    ·rw [if_pos hc,if_pos (by omega)]
     congr 1
     omega
    ·rw [if_neg hc,if_neg (by omega),List.getElem?_append_right (by omega)]
theorem pL {α:Type} (xs ys:List α) (i n:Nat) (h:i+ys.length<=n):(setAt xs i ys).take n=setAt (xs.take n) i ys:=by
 apply List.ext_getElem?;intro j;rw [List.getElem?_take,jt,jt,List.getElem?_take];simp only [List.length_take];by_cases hj:j<n
 ·rw [if_pos hj,if_pos hj]
  by_cases hc:i<=j/\j<i+ys.length/\j<xs.length
  ·rw [if_pos hc,if_pos (by omega)]
  ·rw [if_neg hc,if_neg (by omega)]
 ·rw [if_neg hj,if_neg (by omega),if_neg hj]
theorem Rl {w:World} {J:Nat->Nat->Prop} {vs:Array Value} {cap k i cc:Nat} {xs:List (List Dat)} {cs ds:List Dat} {us:List Value} (h2:vs.size=cap * k) (h3:xs.length<=cap) (h4:∀x∈xs,x.length=k)
  (h5:aX w J xs.flatten (vs.toList.take (xs.length * k))) (hi:xs[i]? = some cs) (h6:aX w J ds us) (hle:cc+ds.length<=k) :
  aX w J (xs.set i (setAt cs cc ds)).flatten ((gJ vs (i * k+cc) us).toList.take ((xs.set i (setAt cs cc ds)).length * k)):=by
 have hilt:i<xs.length:=by
  by_cases hh:i<xs.length
  ·exact hh
  ·rw [List.getElem?_eq_none (by omega)] at hi;cases hi
 have hik:(i+1) * k<=xs.length * k:=Nat.mul_le_mul_right _ (by omega);have hik' : i * k+k=(i+1) * k:=by rw [Nat.add_mul];omega
 rw [qW h4 hi hle,fK,List.length_set,pL _ _ _ _ (by rw [h6.length];omega)];exact aX.setAt h5 h6 _
theorem EF (r:Rel c w0 n gs st a) (hK:bn P Q q c w0 n gs st a o.dst K) {t:TypeId} {x1 x2:Operand} {y1 y2:Opd} {m:Nat} (ho:o.op = .store t x1 x2) (hm:sizeT P t=some m) (hc1:al x1=some y1) (hc2:al x2=some y2)
  (h:WT P Q (step (.store m y1 y2) st q xx)):o.wp P a c.w K Qx:=by
 simp only [step,aj,au,av] at h
 split at h
 ·rename_i id off v hv1 hv2
  split at h
  ·rename_i cs hl
   split at h
   ·rename_i hb
    rw [Bool.and_eq_true,Bool.and_eq_true] at hb;have hb1:=Nat.eq_of_beq_eq_true hb.1.1;have hb2:=Nat.le_of_ble_eq_true hb.1.2;have hb3:=hb.2;obtain ⟨⟨cs0,_⟩,e3⟩:=aD r hc1 hv1;have e4:=aD r hc2 hv2;have e5:=mA e4 (wK hv2);have hl' : look c.heap id=some (.var cs):=by rw [r.heap];exact hl
    obtain ⟨vs,e,h1,h2⟩:=r.hrel.blk id _ hl';have hlen:=h2.length;have hcl:=ax.kj e4 (wK hv2);have hone:∀u∈(a.eval x2).cells.toList,one u=true:=by
     intro u hu;obtain ⟨i,hi⟩:=List.getElem?_of_mem hu;obtain ⟨z,hz,hzr⟩:=e5.get' i u hi;exact x5 hzr (List.all_eq_true.1 hb3 z (List.mem_of_getElem? hz))
    obtain ⟨w',hw',L⟩:=uC (P:=P) (w:=c.w) hm (by omega) hone h1 (o:=off) (by simp at hlen;omega);have hev:=Evo.setVar (cs':=setAt cs off v.cells) r.hrel hl' L.other L.size;have hH:cZ { c with heap:=(id,.var (setAt cs off v.cells))::c.heap,w:=w' } w0 st.next:=by
     refine r.hrel.setVar hl' (L.below (r.hrel.geB hl' trivial)) L.other L.size ?_;exact ⟨_,e,L.here,ax.evo hev _ _ (ax.setAt e5 off h2)⟩
    refine yq (w':=w') ?_ (hK { c with heap:=(id,.var (setAt cs off v.cells))::c.heap,w:=w' } { st with heap:=(id,.var (setAt cs off v.cells))::st.heap } .undef _ rfl rfl (r.evo hev (by simp [r.heap]) hH rfl rfl rfl (Nat.le_refl _)) rfl (by simp [aA]) h);simp only [execOp,ho];have:(Instr.storeAt t (a.eval x1) (a.eval x2)).run P c.w = .ok () w':=by
     rw [e3];unfold Instr.storeAt;rw [run_bind_ok (s:=Instr.sureAddr _) (x:=⟨(c.pl id).gb,off,none⟩) (w':=c.w) rfl];exact hw'
    rw [run_bind_ok this];rfl
   ·exact h.elim
  ·exact h.elim
 ·rename_i id ver i cc v hv1 hv2
  split at h
  ·rename_i k dE xs hl
   split at h
   ·rename_i ds hds
    simp only [WT] at h;have hbv:Nat.beq ver dE = true:=by
     cases hbv:Nat.beq ver dE with
     | false=>exact (h.2 hbv).elim
     | true=>rfl
    have hg:=h.1 hbv;clear h;have hb:=Nat.eq_of_beq_eq_true hbv;subst hb;obtain ⟨cs,hcs,h⟩:=hg
    split at h
    ·rename_i hb
     rw [Bool.and_eq_true,Bool.and_eq_true] at hb;have hb1:=Nat.eq_of_beq_eq_true hb.1.1;have hb2:=Nat.le_of_ble_eq_true hb.1.2;have hb3:=hb.2;have hl' : look c.heap id=some (.mt k ver xs):=by rw [r.heap];exact hl
     have e3:=aD r hc1 hv1;simp only [aA,hl'] at e3;obtain ⟨_,_,e3⟩:=e3;obtain ⟨e3i,e3⟩:=e3 rfl;have e4:=aD r hc2 hv2;have e5:=mA e4 (wK hv2);rw [<- r.heap] at hds;have e6:=nM hds e5;obtain ⟨b3,b4,bb⟩:=r.hrel.blk id _ hl';have hcap:0<(c.pl id).cap:=by omega
     obtain ⟨vs,e,b1,b2,b5,b6⟩:=bb hcap;have hcl:=ax.kj e4 (wK hv2);have hdl:=e6.length;have Vx : (a.eval x2).cells.size=m:=by simp at hdl;omega
     have hone:∀u∈(a.eval x2).cells.toList,one u=true:=by
      intro u hu;obtain ⟨i,hi⟩:=List.getElem?_of_mem hu;obtain ⟨z,hz,hzr⟩:=e5.get' i u hi;exact x5 hzr (List.all_eq_true.1 hb3 z (List.mem_of_getElem? hz))
     have Vy:cs.length=k:=b4 cs (List.mem_of_getElem? hcs);have hik:(i+1) * k<=(c.pl id).cap * k:=Nat.mul_le_mul_right _ (by omega);have hik' : i * k+k=(i+1) * k:=by rw [Nat.add_mul];omega
     obtain ⟨w',hw',L⟩:=uC (P:=P) (w:=c.w) hm Vx hone b1 (o:=i * k+cc) (by omega);have hgb:=r.hrel.geB hl' hcap;have hpl:c.pl=(c.aI id (.mt k ver (xs.set i (setAt cs cc ds))) (c.pl id) w').pl:=by
      funext z;simp only [Cx.aI];split
      ·rename_i hz;rw [hz]
      ·rfl
     have hev:Evo c (c.aI id (.mt k ver (xs.set i (setAt cs cc ds))) (c.pl id) w'):=by
      refine Evo.aI r.hrel hl' (fun k' _ hk'=>L.other k' (hk' hcap)) (by rw [L.size];exact Nat.le_refl _) (.inl ⟨rfl,fun _=>hcap⟩) ?_ ⟨rfl,Nat.le_refl _,fun _=>⟨rfl,by simp⟩⟩;intro _ o' hi;exfalso
      rcases hi with hi|⟨_,_,g3⟩
      ·exact r.hrel.ge id _ hl' hcap hi.1
      ·obtain ⟨_,_,hh,_⟩:=g3 id _ hl' hcap rfl;cases hh
     have Vz:(setAt cs cc ds).length=k:=by rw [fJ];exact Vy
     have hH:cZ (c.aI id (.mt k ver (xs.set i (setAt cs cc ds))) (c.pl id) w') w0 st.next:=by
      refine r.hrel.aI hl' hev (fun k' _ hk'=>L.other k' (hk' hcap)) (L.below hgb) (.inl ⟨rfl,fun _=>hcap⟩) ?_;refine ⟨by rw [ah.2];simpa using b3,?_,fun _=>⟨gJ vs (i * k+cc) (a.eval x2).cells.toList,e,?_,?_,?_,?_⟩⟩;rotate_left
      ·rw [ah.2];exact L.here
      ·rw [ah.2,mL];exact b2
      rotate_left 2
      ·intro x hx
       rcases List.mem_or_eq_of_mem_set hx with hx|hx
       ·exact b4 x hx
       ·rw [hx];exact Vz
      ·refine aX.keep hev.keeps _ _ ?_
       exact Rl b2 b3 b4 b5 hcs e6 (by omega)
      ·intro u hu
       rw [fK,List.length_set] at hu;have WG:(i+1) * k<=xs.length * k:=Nat.mul_le_mul_right _ (by omega);rw [pL _ _ _ _ (by simp at hdl ⊢;omega)] at hu
       rcases oZ hu with hu|hu
       ·exact b6 u hu
       ·exact hone u hu
     have hst:(c.aI id (.mt k ver (xs.set i (setAt cs cc ds))) (c.pl id) w').heap=(id,.mt k ver (xs.set i (setAt cs cc ds)))::st.heap:=by
      simp [Cx.aI,r.heap]
     refine yq (w':=w') ?_ (hK (c.aI id (.mt k ver (xs.set i (setAt cs cc ds))) (c.pl id) w') { st with heap:=(id,.mt k ver (xs.set i (setAt cs cc ds)))::st.heap } .undef _ rfl rfl (r.evo hev hst hH rfl rfl rfl (Nat.le_refl _)) rfl (by simp [aA]) h);simp only [execOp,ho];have:(Instr.storeAt t (a.eval x1) (a.eval x2)).run P c.w = .ok () w':=by
      rw [e3];unfold Instr.storeAt;rw [run_bind_ok (s:=Instr.sureAddr _) (x:=⟨(c.pl id).gb,i * k+cc,none⟩) (w':=c.w) rfl];exact hw'
     rw [run_bind_ok this];rfl
    ·exact h.elim
   ·exact h.elim
  ·exact h.elim
 ·exact h.elim
end
end Uw
namespace Uw
open Go Go.RowKit
variable [Glob]
section
variable {P : Program} {Q : aH -> St -> Prop} {q : V -> St -> Tree} {c : Cx} {w0 : World} {n : Nat} {gs : Fr} {st : St} {a : Act} {K : Act -> World -> Prop} {Qx : Exit -> Act -> World -> Prop} {o : Oper} {xx : aH -> St -> Tree}
theorem qX {s:TypeId} {fs:Array Field} {f m b o' : Nat} {fd:Field} {v:Value} {w:World} (hu:P.underlying s=some (.struct fs)) (hf:fs[f]? = some fd) (hm:sizeT P fd.type=some (m+1)) (hv:v = .pointer (some ⟨b,o',none⟩)) :
  (Instr.fieldAt s v f).run P w = .ok (.pointer (some ⟨b,o' + fd.offset,none⟩)) w:=by
 subst hv;unfold Instr.fieldAt;rw [run_bind_ok (bC hu)];simp only [hf];rw [run_bind_ok (s:=Instr.sureAddr _) (x:=⟨b,o',none⟩) (w':=w) rfl];have:(fieldPlace ⟨b,o',none⟩ fd).run P w = .ok ⟨b,o' + fd.offset,none⟩ w:=by
  unfold fieldPlace;rw [run_bind_ok (eH hm)];simp only [Nat.add_one_ne_zero,if_false,addr_add];rfl
 rw [run_bind_ok this];rfl
theorem Rm (r:Rel c w0 n gs st a) (hK:bn P Q q c w0 n gs st a o.dst K) {s:TypeId} {fs:Array Field} {f m:Nat} {fd:Field} {x:Operand} {y:Opd} (ho:o.op = .fieldAddr s x f)
  (hu:P.underlying s=some (.struct fs)) (hf:fs[f]? = some fd) (hm:sizeT P fd.type=some (m+1)) (hc:al x=some y) (h:WT P Q (step (.fld fd.offset y) st q xx)):o.wp P a c.w K Qx:=by
 simp only [step] at h
 cases hv:y.ev st with
 | none=>rw [hv] at h;exact h.elim
 | some v=>
  rw [hv] at h;have e1:=aD r hc hv
  cases v with
  | ptr id o'=>
   obtain ⟨e2,e3⟩:=e1;refine aK r hK (v:=.ptr id (o' + fd.offset)) ⟨e2,rfl⟩ h ?_;simp only [execOp,ho];rw [run_bind_ok (qX hu hf hm e3)];rfl
  | ro cs o'=>
   obtain ⟨b,o2,e2,e3⟩:=e1;refine aK r hK (v:=.ro cs (o' + fd.offset)) (gv:=.pointer (some ⟨b,o2+o' + fd.offset,none⟩)) ⟨b,o2,by rw [Nat.add_assoc],e3⟩ h ?_;simp only [execOp,ho];rw [run_bind_ok (qX hu hf hm e2)];rfl
  | mG id ver i cc=>
   have e2:jG c id ver i cc _ (look c.heap id):=e1;dsimp only at h
   split at h
   ·rename_i k' dE xs hl
    simp only [WT] at h;have hbv:Nat.beq ver dE = true:=by
     cases hbv:Nat.beq ver dE with
     | false=>exact (h.2 hbv).elim
     | true=>rfl
    have hq:=h.1 hbv;have hb2:=Nat.eq_of_beq_eq_true hbv;subst hb2;have hl' : look c.heap id=some (.mt k' ver xs):=by rw [r.heap];exact hl
    rw [hl'] at e2;obtain ⟨_,_,e3⟩:=e2;obtain ⟨e4,e5⟩:=e3 rfl;refine aK r hK (v:=.mG id ver i (cc+fd.offset)) (gv:=.pointer (some ⟨(c.pl id).gb,i * k' + (cc+fd.offset),none⟩)) ?_ hq ?_
    ·simp only [aA,hl']
     exact ⟨Nat.le_refl _,⟨_,rfl⟩,fun _=>⟨e4,rfl⟩⟩
    ·simp only [execOp,ho]
     rw [run_bind_ok (qX hu hf hm e5)];rw [Nat.add_assoc];rfl
   ·exact h.elim
  | _=>exact h.elim
theorem KR (r:Rel c w0 n gs st a) (hK:bn P Q q c w0 n gs st a o.dst K) {x:Operand} {y:Opd} (ho:o.op = .nilCheck x) (hc:al x=some y) (h:WT P Q (step (.cD y) st q xx)):o.wp P a c.w K Qx:=by
 simp only [step] at h
 cases hv:y.ev st with
 | none=>rw [hv] at h;exact h.elim
 | some v=>
  rw [hv] at h;have e1:=aD r hc hv;have e1':=e1
  cases v with
  | ptr id o'=>
   obtain ⟨e2,e3⟩:=e1';refine aK r hK e1 h ?_;simp [execOp,ho,e3]
  | ro cs o'=>
   obtain ⟨b,o2,e2,e3⟩:=e1';refine aK r hK e1 h ?_;simp [execOp,ho,e2]
  | _=>exact h.elim
theorem run_indexAt_slice {t e:TypeId} {k b o' len cap:Nat} {ik:IntKind} {i:Int} {v u:Value} {w:World} (hu:P.underlying t=some (.slice e)) (hk:sizeT P e=some k) (hv:v = .slice (some ⟨b,o',none⟩) len cap) (hi:u = .int ik i)
  (h1:0<=i) (h2:i<len):(Instr.indexAt t v u).run P w = .ok (.pointer (some ⟨b,o' + i.toNat * k,none⟩)) w:=by
 subst hv hi;simp [Instr.indexAt,asIntOf,bC hu,eH hk,h1,h2,addr_add,pure,Sem.run]
theorem Rn (r:Rel c w0 n gs st a) (hK:bn P Q q c w0 n gs st a o.dst K) {t e:TypeId} {k:Nat} {x i:Operand} {y j:Opd} (ho:o.op = .indexAddr t x i) (hu:P.underlying t=some (.slice e)) (hk:sizeT P e=some k)
  (hc1:al x=some y) (hc2:al i=some j) (h:WT P Q (step (.idx k y j) st q xx)):o.wp P a c.w K Qx:=by
 simp only [step] at h
 split at h
 ·rename_i k' xs z ik m hv1 hv2
  split at h
  ·rename_i hb
   have hb:=Nat.eq_of_beq_eq_true hb;subst hb;have e5:=aD r hc2 hv2;simp only [aA,aE] at e5;simp only [WT] at h;obtain ⟨g1,g2⟩:=h
   cases hb:(decide (0<=m)&&decide (m<(xs.length:Int))) with
   | false=>exact (g2 hb).elim
   | true=>
    obtain ⟨cs,hcs,hq⟩:=g1 hb;simp at hb;have e0:=aD r hc1 hv1;simp only [aA,aE] at e0
    rcases e0 with ⟨_,e0⟩|⟨b,o',cap,e1,e2,e3,e4⟩
    ·subst e0;simp at hcs
    obtain ⟨f1,f2⟩:=e4.get m.toNat cs hcs;refine aK r hK (v:=.ro cs 0) (gv:=.pointer (some ⟨b,o' + m.toNat * k,none⟩)) ⟨b,o' + m.toNat * k,rfl,f2⟩ hq ?_;simp only [execOp,ho];rw [run_bind_ok (run_indexAt_slice hu hk e1 e5 hb.1 hb.2)];rfl
  ·exact h.elim
 ·rename_i id ver off len ik m hv1 hv2
  have e1:=aD r hc1 hv1;have e5:=aD r hc2 hv2;simp only [aA,aE] at e5;simp only [aA] at e1;rw [r.heap] at e1
  split at h
  ·rename_i k' xs hl
   rw [hl] at e1
   split at h
   ·rename_i hb
    have hb:=Nat.eq_of_beq_eq_true hb;subst hb;obtain ⟨f1,e1⟩:=e1;simp only [WT] at h;obtain ⟨g1,g2⟩:=h
    cases hb:(decide (0<=m)&&decide (m<(len:Int))) with
    | false=>exact (g2 hb).elim
    | true=>
     obtain ⟨cs,hcs,hq⟩:=g1 hb;simp at hb
     rcases e1 with ⟨_,e1,_⟩|⟨b,o',cap,f2,f3,f4,f5⟩
     ·omega
     have hcs' : ((xs.drop off).take len)[m.toNat]? = some cs:=by
      rw [List.getElem?_take,if_pos (by omega),List.getElem?_drop];exact hcs
     obtain ⟨p1,p2⟩:=f4.get m.toNat cs hcs';refine aK r hK (v:=.ro cs 0) (gv:=.pointer (some ⟨b,o' + m.toNat * k,none⟩)) ⟨b,o' + m.toNat * k,rfl,p2⟩ hq ?_;simp only [execOp,ho];rw [run_bind_ok (run_indexAt_slice hu hk f2 e5 hb.1 hb.2)];rfl
   ·exact h.elim
  ·rename_i k' dE xs hl
   rw [hl] at e1
   split at h
   ·rename_i hb
    have hb1:=Nat.eq_of_beq_eq_true hb;subst hb1;simp only [WT] at h;have hbv:Nat.beq ver dE = true:=by
     cases hbv:Nat.beq ver dE with
     | false=>exact (h.2 hbv).elim
     | true=>rfl
    have h3:=h.1 hbv;clear h;have hb2:=Nat.eq_of_beq_eq_true hbv;subst hb2;obtain ⟨f0,_,f1⟩:=e1;obtain ⟨f1,f2⟩:=f1 rfl;obtain ⟨g1,g2⟩:=h3
    cases hb:(decide (0<=m)&&decide (m<(len:Int))) with
    | false=>exact (g2 hb).elim
    | true=>
     have hq:=g1 hb;simp at hb;have hl' : look c.heap id=some (.mt k ver xs):=by rw [r.heap];exact hl
     obtain ⟨b3,b4,bb⟩:=r.hrel.blk id _ hl'
     rcases f2 with ⟨_,f2,_⟩|⟨b,o',f2,f3⟩
     ·omega
     obtain ⟨rfl,rfl⟩:=f3 (by omega);refine aK r hK (v:=.mG id ver (off+m.toNat) 0) (gv:=.pointer (some ⟨(c.pl id).gb,off * k+m.toNat * k,none⟩)) ?_ hq ?_
     ·simp only [aA,hl']
      refine ⟨Nat.le_refl _,⟨_,rfl⟩,fun _=>⟨by omega,?_⟩⟩;rw [Nat.add_mul];rfl
     ·simp only [execOp,ho]
      rw [run_bind_ok (run_indexAt_slice hu hk f2 e5 hb.1 hb.2)];rfl
   ·exact h.elim
  ·exact h.elim
 ·rename_i id len ik m hv1 hv2
  have e1:=aD r hc1 hv1;have e5:=aD r hc2 hv2;simp only [aA,aE] at e5;simp only [WT] at h;obtain ⟨g1,g2⟩:=h
  cases hb:(decide (0<=m)&&decide (m<(len:Int))) with
  | false=>exact (g2 hb).elim
  | true=>
   have hq:=g1 hb;simp at hb;obtain ⟨f1,f2,_⟩:=e1;refine aK r hK (v:=.ptr id (m.toNat * k)) (gv:=.pointer (some ⟨(c.pl id).gb,0+m.toNat * k,none⟩)) ⟨f1,by rw [Nat.zero_add]⟩ hq ?_;simp only [execOp,ho];rw [run_bind_ok (run_indexAt_slice hu hk f2 e5 hb.1 hb.2)];rfl
 ·exact h.elim
theorem NK (r:Rel c w0 n gs st a) (hK:bn P Q q c w0 n gs st a o.dst K) {t:TypeId} {x i:Operand} {y j:Opd} (ho:o.op = .index t x i) (hu:P.underlying t=some .string)
  (hc1:al x=some y) (hc2:al i=some j) (h:WT P Q (step (.idxs y j) st q xx)):o.wp P a c.w K Qx:=by
 simp only [step] at h
 split at h
 ·rename_i s ik m hv1 hv2
  have e1:=aD r hc1 hv1;have e5:=aD r hc2 hv2;simp only [aA,aE] at e1 e5;simp only [WT] at h;obtain ⟨g1,g2⟩:=h
  cases hb:(decide (0<=m)&&decide (m<(s.length:Int))) with
  | false=>exact (g2 hb).elim
  | true=>
   obtain ⟨ch,hch,hq⟩:=g1 hb;simp at hb;refine aK r hK (v:=.d (.int .u8 ch.toNat)) (gv:=.int .u8 ch.toNat) (by simp [aA,aE]) hq ?_;simp only [execOp,ho];have:(Instr.index t (a.eval x) (a.eval i)).run P c.w = .ok (.int .u8 ch.toNat) c.w:=by
    unfold Instr.index;rw [e1,e5];rw [run_bind_ok (s:=asIntOf _) (x:=(ik,m)) (w':=c.w) rfl];simp only [];rw [run_bind_ok (bC hu)];have hx:(⟨s.toArray⟩:ByteArray)[m.toNat]? = some ch:=by
     have h0:m.toNat<s.length:=by omega
     have:(⟨s.toArray⟩:ByteArray)[m.toNat]? = some ((⟨s.toArray⟩:ByteArray)[m.toNat]'(by simpa [ByteArray.size] using h0)):=by
      rw [getElem?_pos]
     rw [this];rw [List.getElem?_eq_getElem h0] at hch;simpa [ByteArray.getElem_eq_getElem_data] using hch
    simp only [hb.1,if_true,hx];rfl
   rw [run_bind_ok this];rfl
 ·exact h.elim
theorem NL {t:TypeId} {ts:Array TypeId} {ty:TypeId} {v:Value} {w:World} (ht:ts[0]? = some t) {m:Nat}
  (h:(∃e x cap,P.underlying t=some (.slice e)/\v = .slice x m cap)\/(∃s,P.underlying t=some .string/\v = .string s/\s.size=m)) :
  (Builtin.len_ ts ty #[v]).run P w = .ok (.int .i64 m) w:=by
 rcases h with ⟨e,x,cap,hu,rfl⟩|⟨s,hu,rfl,rfl⟩
 ·simp [Builtin.len_,ht,bC hu,goInt]
 ·simp [Builtin.len_,ht,bC hu,goInt]
end
end Uw
namespace Uw
open Go Go.RowKit
variable [Glob]
section
variable {P : Program} {Q : aH -> St -> Prop} {q : V -> St -> Tree} {c : Cx} {w0 : World} {n : Nat} {gs : Fr} {st : St} {a : Act} {K : Act -> World -> Prop} {Qx : Exit -> Act -> World -> Prop} {o : Oper} {xx : aH -> St -> Tree}
theorem er {cl:Call} {x:Operand} {t:TypeId} {m:Nat} {w:World} (ho:o.op = .call cl) (hb:cl.callee = .builtin .len) (hx:cl.args.toList=[x]) (ht:cl.argTypes.toList=[t])
  (h:(∃e y cap,P.underlying t=some (.slice e)/\a.eval x = .slice y m cap)\/(∃s,P.underlying t=some .string/\a.eval x = .string s/\s.size=m)) :
  (execOp a.eval o).run P w = .ok (.value (.int .i64 m)) w:=by
 obtain ⟨cal,args,ats⟩:=cl;simp only at hb hx ht;subst hb;have hx' : args = #[x]:=by rw [<- hx]
 have ht' : ats = #[t]:=by rw [<- ht]
 subst hx' ht';simp only [execOp,ho,resolve,invoke,builtin];have:=NL (P:=P) (w:=w) (ty:=o.type) (ts:=#[t]) (v:=a.eval x) rfl h;simp [this]
theorem KT (r:Rel c w0 n gs st a) (hK:bn P Q q c w0 n gs st a o.dst K) {cl:Call} {x:Operand} {t:TypeId} {y:Opd} {b:Bool} (ho:o.op = .call cl) (hb:cl.callee = .builtin .len) (hx:cl.args.toList=[x]) (ht:cl.argTypes.toList=[t])
  (hu:if b then P.underlying t=some .string else ∃e,P.underlying t=some (.slice e)) (hc:al x=some y) (h:WT P Q (step (.len b y) st q xx)):o.wp P a c.w K Qx:=by
 cases b with
 | false=>
  simp only [Bool.false_eq_true,if_false] at hu;obtain ⟨e,hu⟩:=hu;simp only [step] at h
  split at h
  ·rename_i k xs z hv
   have e0:=aD r hc hv;simp only [aA,aE] at e0
   rcases e0 with ⟨⟨_,e1,_⟩,rfl⟩|⟨b,o',cap,e1,_⟩
   ·exact aK r hK (v:=.d (.int .i64 ((0:Nat):Int))) (gv:=.int .i64 ((0:Nat):Int)) (by simp [aA,aE]) h (er (m:=0) ho hb hx ht (.inl ⟨e,_,_,hu,e1⟩))
   ·exact aK r hK (v:=.d (.int .i64 xs.length)) (by simp [aA,aE]) h (er ho hb hx ht (.inl ⟨e,_,_,hu,e1⟩))
  ·rename_i hv
   have e1:=aD r hc hv;simp only [aA,aE] at e1;exact aK r hK (v:=.d (.int .i64 0)) (gv:=.int .i64 ((0:Nat):Int)) (by simp [aA,aE]) h (er (m:=0) ho hb hx ht (.inl ⟨e,_,_,hu,e1⟩))
  ·rename_i id ver off len hv
   have e1:=aD r hc hv;simp only [aA] at e1;rw [r.heap] at e1
   split at h
   ·rename_i k xs hl
    rw [hl] at e1
    rcases e1 with ⟨_,⟨e2,rfl,_⟩|⟨b,o',cap,e2,_⟩⟩
    ·exact aK r hK (v:=.d (.int .i64 ((0:Nat):Int))) (gv:=.int .i64 ((0:Nat):Int)) (by simp [aA,aE]) h (er (m:=0) ho hb hx ht (.inl ⟨e,_,_,hu,e2⟩))
    exact aK r hK (v:=.d (.int .i64 len)) (by simp [aA,aE]) h (er ho hb hx ht (.inl ⟨e,_,_,hu,e2⟩))
   ·rename_i k dE xs hl
    rw [hl] at e1;simp only [WT] at h
    cases hbq:Nat.beq ver dE with
    | false=>exact (h.2 hbq).elim
    | true=>
     have h:=h.1 hbq;have hbq:=Nat.eq_of_beq_eq_true hbq;obtain ⟨_,_,e2⟩:=e1
     rcases e2 hbq with ⟨_,⟨e3,rfl,_⟩|⟨b,o',e3,_⟩⟩
     ·exact aK r hK (v:=.d (.int .i64 ((0:Nat):Int))) (gv:=.int .i64 ((0:Nat):Int)) (by simp [aA,aE]) h (er (m:=0) ho hb hx ht (.inl ⟨e,_,_,hu,e3⟩))
     ·exact aK r hK (v:=.d (.int .i64 len)) (by simp [aA,aE]) h (er ho hb hx ht (.inl ⟨e,_,_,hu,e3⟩))
   ·exact h.elim
  ·rename_i id len hv
   obtain ⟨_,e1,_⟩:=aD r hc hv;exact aK r hK (v:=.d (.int .i64 len)) (by simp [aA,aE]) h (er ho hb hx ht (.inl ⟨e,_,_,hu,e1⟩))
  ·exact h.elim
 | true=>
  simp only [if_true] at hu;simp only [step] at h
  split at h
  ·rename_i s hv
   have e1:=aD r hc hv;simp only [aA,aE] at e1;exact aK r hK (v:=.d (.int .i64 s.length)) (by simp [aA,aE]) h (er (m:=s.length) ho hb hx ht (.inr ⟨_,hu,e1,by simp [ByteArray.size]⟩))
  ·exact h.elim
theorem pM {op:BinOp} {t t' : TypeId} {x y:Operand} {u v:Value} {w:World} (ho:o.op = .binOp op t x y t') (hg:(eqGuard op t x y (a.eval x) (a.eval y)).run P w = .ok () w) (h:(binOp op t (a.eval x) (a.eval y)).run P w = .ok u w) :
  (execOp a.eval o).run P w = .ok (.value u) w:=by
 simp only [execOp,ho];simp [hg,h]
theorem Ji {op:BinOp} {t:TypeId} {x y:Operand} {k k' : IntKind} {i j:Int} {w:World}:(eqGuard op t x y (.int k i) (.int k' j)).run P w = .ok () w:=by
 unfold eqGuard
 cases op<;>simp
theorem Jj {op:BinOp} {t:TypeId} {x y:Operand} {i j:ByteArray} {w:World}:(eqGuard op t x y (.string i) (.string j)).run P w = .ok () w:=by
 unfold eqGuard
 cases op<;>simp
theorem yu {op:BinOp} {t:TypeId} {x y:Operand} {i j:Bool} {w:World}:(eqGuard op t x y (.bool i) (.bool j)).run P w = .ok () w:=by
 unfold eqGuard
 cases op<;>simp
theorem bytes_eq (s t:List UInt8):((⟨s.toArray⟩:ByteArray).toList == (⟨t.toArray⟩:ByteArray).toList)=decide (s=t):=by
 have:∀l:List UInt8,(⟨l.toArray⟩:ByteArray).toList=l:=by
  intro l;simp
 rw [this,this];rw [Bool.eq_iff_iff];simp
theorem NM {op:BinOp} {k:IntKind} {i j:Int} {Q:aH->St->Prop} {f:Dat->Tree} {t:TypeId} {w:World} (h:WT P Q (lu op k i j f)) :
  ∃d gv,(binOp op t (.int k i) (.int k j)).run P w = .ok gv w/\(∀J,aE w J d gv)/\WT P Q (f d):=by
 cases op with
 | add=>exact ⟨.int k (k.wrap (i+j)),.int k (k.wrap (i+j)),by simp [binOp,Op.intArith],fun J=>by simp [aE],yt (q:=fun n=>f (.int k n)) h⟩
 | sub=>exact ⟨.int k (k.wrap (i - j)),.int k (k.wrap (i - j)),by simp [binOp,Op.intArith],fun J=>by simp [aE],yt (q:=fun n=>f (.int k n)) h⟩
 | mul=>exact ⟨.int k (k.wrap (i * j)),.int k (k.wrap (i * j)),by simp [binOp,Op.intArith],fun J=>by simp [aE],yt (q:=fun n=>f (.int k n)) h⟩
 | quo=>
  simp only [lu,WT] at h;by_cases hj:j=0
  ·exact (h.1 (by simp [hj])).elim
  ·exact ⟨.int k (k.wrap (i.tdiv j)),.int k (k.wrap (i.tdiv j)),by simp [binOp,Op.intDiv,hj],fun J=>by simp [aE],yt (q:=fun n=>f (.int k n)) (h.2 (by simp [hj]))⟩
 | rem=>
  simp only [lu,WT] at h;by_cases hj:j=0
  ·exact (h.1 (by simp [hj])).elim
  ·exact ⟨.int k (i.tmod j),.int k (i.tmod j),by simp [binOp,Op.intDiv,hj],fun J=>by simp [aE],h.2 (by simp [hj])⟩
 | eql=>exact ⟨_,.bool (decide (i=j)),by simp [binOp,Op.intCmp];rw [Bool.eq_iff_iff];simp,fun J=>by simp [aE],h⟩
 | neq=>exact ⟨_,.bool (!decide (i=j)),by simp [binOp,Op.intCmp];rw [Bool.eq_iff_iff];simp,fun J=>by simp [aE],h⟩
 | lss=>exact ⟨_,_,by simp [binOp,Op.intCmp];rfl,fun J=>by simp [aE],h⟩
 | leq=>exact ⟨_,_,by simp [binOp,Op.intCmp];rfl,fun J=>by simp [aE],h⟩
 | gtr=>exact ⟨_,_,by simp [binOp,Op.intCmp];rfl,fun J=>by simp [aE],h⟩
 | geq=>exact ⟨_,_,by simp [binOp,Op.intCmp];rfl,fun J=>by simp [aE],h⟩
 | shl=>exact h.elim
 | shr=>exact h.elim
 | and=>exact ⟨.int k (k.wrap (BitVec.ofInt k.bits i&&&BitVec.ofInt k.bits j).toNat),.int k (k.wrap (BitVec.ofInt k.bits i&&&BitVec.ofInt k.bits j).toNat),by simp only [binOp,ne_eq,not_true_eq_false,if_false,Op.intBits];rfl,fun J=>by simp only [aE],h⟩
 | or=>exact ⟨.int k (k.wrap (BitVec.ofInt k.bits i|||BitVec.ofInt k.bits j).toNat),.int k (k.wrap (BitVec.ofInt k.bits i|||BitVec.ofInt k.bits j).toNat),by simp only [binOp,ne_eq,not_true_eq_false,if_false,Op.intBits];rfl,fun J=>by simp only [aE],h⟩
 | xor=>exact ⟨.int k (k.wrap (BitVec.ofInt k.bits i ^^^ BitVec.ofInt k.bits j).toNat),.int k (k.wrap (BitVec.ofInt k.bits i ^^^ BitVec.ofInt k.bits j).toNat),by simp only [binOp,ne_eq,not_true_eq_false,if_false,Op.intBits];rfl,fun J=>by simp only [aE],h⟩
 | andNot=>exact ⟨.int k (k.wrap (BitVec.ofInt k.bits i&&&~~~BitVec.ofInt k.bits j).toNat),.int k (k.wrap (BitVec.ofInt k.bits i&&&~~~BitVec.ofInt k.bits j).toNat),by simp only [binOp,ne_eq,not_true_eq_false,if_false,Op.intBits];rfl,fun J=>by simp only [aE],h⟩
theorem NN {op:BinOp} {s u:List UInt8} {Q:aH->St->Prop} {f:Dat->Tree} {t:TypeId} {w:World} (h:WT P Q (lY op s u f)) :
  ∃d gv,(binOp op t (.string ⟨s.toArray⟩) (.string ⟨u.toArray⟩)).run P w = .ok gv w/\(∀J,aE w J d gv)/\WT P Q (f d):=by
 have hl:∀l:List UInt8,(⟨l.toArray⟩:ByteArray).toList=l:=by intro l;simp
 cases op with
 | add=>
  simp only [lY,WT] at h;by_cases hb:s.length+u.length<4611686018427387904
  ·refine ⟨.str (s++u),.string ⟨(s++u).toArray⟩,?_,fun J=>by simp [aE],h.1 (by simp [hb])⟩
   have h1:¬(((⟨s.toArray⟩:ByteArray).size+(⟨u.toArray⟩:ByteArray).size:Nat):Int)>IntKind.i64.max:=by
    simp [ByteArray.size,IntKind.max,IntKind.signed,IntKind.bits];omega
   simp only [binOp,Op.stringOp,h1,if_false];have:(⟨s.toArray⟩:ByteArray)++(⟨u.toArray⟩:ByteArray)=⟨(s++u).toArray⟩:=by
    apply ByteArray.ext;simp
   rw [this];rfl
  ·exact (h.2 (by simp;omega)).elim
 | eql=>exact ⟨_,.bool (decide (s=u)),by simp only [binOp,Op.stringOp,bytes_eq];rfl,fun J=>by simp [aE],h⟩
 | neq=>exact ⟨_,.bool (!decide (s=u)),by simp only [binOp,Op.stringOp,bytes_eq];rfl,fun J=>by simp [aE],h⟩
 | lss=>exact ⟨_,.bool (Op.bytesLess s u),by simp only [binOp,Op.stringOp,hl];rfl,fun J=>by simp [aE],h⟩
 | leq=>exact ⟨_,.bool (Op.bytesLess s u||decide (s=u)),by simp only [binOp,Op.stringOp,bytes_eq];simp only [hl];rfl,fun J=>by simp [aE],h⟩
 | gtr=>exact ⟨_,.bool (!(Op.bytesLess s u||decide (s=u))),by simp only [binOp,Op.stringOp,bytes_eq];simp only [hl];rfl,fun J=>by simp [aE],h⟩
 | geq=>exact ⟨_,.bool (!Op.bytesLess s u),by simp only [binOp,Op.stringOp,hl];rfl,fun J=>by simp [aE],h⟩
 | _=>exact h.elim
theorem KU (r:Rel c w0 n gs st a) (hK:bn P Q q c w0 n gs st a o.dst K) {op:BinOp} {t t' : TypeId} {x1 x2:Operand} {y1 y2:Opd} (ho:o.op = .binOp op t x1 x2 t') (hc1:al x1=some y1) (hc2:al x2=some y2)
  (h:WT P Q (step (.bin op y1 y2) st q xx)):o.wp P a c.w K Qx:=by
 simp only [step] at h
 split at h
 ·rename_i k i k' j hv1 hv2
  have e1:=aD r hc1 hv1;have e2:=aD r hc2 hv2;simp only [aA,aE] at e1 e2
  split at h
  ·rename_i hk
   have hk:k=k':=of_decide_eq_true hk;subst hk;obtain ⟨d,gv,g1,g2,g3⟩:=NM (t:=t) (w:=c.w) h;refine aK r hK (v:=.d d) (g2 _) g3 (pM (v:=gv) ho ?_ ?_)
   ·rw [e1,e2];exact Ji
   ·rw [e1,e2];exact g1
  ·exact h.elim
 ·rename_i s u hv1 hv2
  have e1:=aD r hc1 hv1;have e2:=aD r hc2 hv2;simp only [aA,aE] at e1 e2;obtain ⟨d,gv,g1,g2,g3⟩:=NN (t:=t) (w:=c.w) h;refine aK r hK (v:=.d d) (g2 _) g3 (pM (v:=gv) ho ?_ ?_)
  ·rw [e1,e2];exact Jj
  ·rw [e1,e2];exact g1
 ·exact h.elim
theorem run_equal_bool {t:TypeId} {i j:Bool} {w:World} (hu:P.underlying t=some .bool):(Op.equal t (.bool i) (.bool j)).run P w = .ok (i == j) w:=by
 have key:∀d,(Op.equalIn (d+1) t (.bool i) (.bool j)).run P w = .ok (i == j) w:=by
  intro d;simp [Op.equalIn,bC hu]
 exact key 9999
theorem KW (r:Rel c w0 n gs st a) (hK:bn P Q q c w0 n gs st a o.dst K) {op:BinOp} {t t' : TypeId} {x1 x2:Operand} {y1 y2:Opd} {neg:Bool} (ho:o.op = .binOp op t x1 x2 t') (hop:op=if neg then .neq else .eql) (hu:P.underlying t=some .bool)
  (hc1:al x1=some y1) (hc2:al x2=some y2) (h:WT P Q (step (.eqb neg y1 y2) st q xx)):o.wp P a c.w K Qx:=by
 simp only [step] at h
 split at h
 ·rename_i i j hv1 hv2
  have e1:=aD r hc1 hv1;have e2:=aD r hc2 hv2;simp only [aA,aE] at e1 e2
  cases neg with
  | true=>
   simp only [if_true] at hop;subst hop;refine aK r hK (gv:=.bool (i != j)) (by simp [aA,aE]) h (pM (v:=.bool true) ho ?_ ?_)
   ·rw [e1,e2];exact yu
   ·rw [e1,e2]
    simp only [binOp];rw [run_bind_ok (run_equal_bool hu)];rfl
  | false=>
   simp only [Bool.false_eq_true,if_false] at hop;subst hop;refine aK r hK (gv:=.bool (i == j)) (by simp [aA,aE]) h (pM (v:=.bool true) ho ?_ ?_)
   ·rw [e1,e2];exact yu
   ·rw [e1,e2]
    simp only [binOp];rw [run_bind_ok (run_equal_bool hu)];rfl
 ·exact h.elim
theorem Ro (r:Rel c w0 n gs st a) (hK:bn P Q q c w0 n gs st a o.dst K) {t:TypeId} {x:Operand} {y:Opd} (ho:o.op = .unOp .not t x) (hc:al x=some y) (h:WT P Q (step (.not y) st q xx)):o.wp P a c.w K Qx:=by
 simp only [step] at h
 split at h
 ·rename_i b hv
  have e1:=aD r hc hv;simp only [aA,aE] at e1;refine aK r hK (gv:=.bool (!b)) (by simp [aA,aE]) h ?_;simp [execOp,ho,e1,Op.unary]
 ·exact h.elim
theorem NP (r:Rel c w0 n gs st a) (hK:bn P Q q c w0 n gs st a o.dst K) {s d:TypeId} {x:Operand} {y:Opd} {k k' : IntKind} (ho:o.op = .convert s d x) (hs:P.underlying s=some (.int k')) (hd:P.underlying d=some (.int k)) (hc:al x=some y)
  (h:WT P Q (step (.conv k y) st q xx)):o.wp P a c.w K Qx:=by
 simp only [step] at h
 split at h
 ·rename_i k0 i hv
  have e1:=aD r hc hv;simp only [aA,aE] at e1;refine aK r hK (v:=.d (.int k (k.wrap i))) (gv:=.int k (k.wrap i)) (by simp [aA,aE]) (yt (q:=fun m=>q (.d (.int k m)) st) h) ?_;simp [execOp,ho,e1,convert,bC hs,bC hd,Conv.intToInt]
 ·exact h.elim
theorem Rq (r:Rel c w0 n gs st a) (hK:bn P Q q c w0 n gs st a o.dst K) {x:Operand} {y:Opd} {i:Nat} (ho:o.op = .extract x i) (hc:al x=some y) (h:WT P Q (step (.ext y i) st q xx)):o.wp P a c.w K Qx:=by
 simp only [step] at h
 split at h
 ·rename_i vs hv
  obtain ⟨us,e1,e2⟩:=aD r hc hv
  split at h
  ·rename_i v hi
   obtain ⟨u,g1,g2⟩:=e2.get i v hi;refine aK r hK g2 h ?_;simp [execOp,ho,e1,Instr.extract,g1]
  ·exact h.elim
 ·exact h.elim
end
end Uw
namespace Uw
open Go Go.RowKit
variable [Glob]
theorem aX.append {w:World} {J:Nat->Nat->Prop}:∀{xs ys:List Dat} {vs us:List Value},aX w J xs vs->aX w J ys us->aX w J (xs++ys) (vs++us)
 | [],ys,vs,us,h1,h2=>by simp [aX] at h1;subst h1;simpa using h2
 | x::xs,ys,vs,us,h1,h2=>by
  obtain ⟨v,vs',rfl,g1,g2⟩:=h1;exact ⟨v,vs'++us,rfl,g1,aX.append g2 h2⟩
theorem dO.flat {w:World} {J:Nat->Nat->Prop} {b:Nat}:∀{ds:List Dat} {o:Nat},dO w J b o ds->∃us:List Value,aX w J ds us/\(∀j v,us[j]? = some v->w.cell? ⟨b,o+j,none⟩=some v)/\∀v∈us,one v=true
 | [],o,_=>⟨[],rfl,by simp,by simp⟩
 | x::xs,o,h=>by
  obtain ⟨⟨v,h1,h2,h5,h3⟩,h4⟩:=h;obtain ⟨us,g1,g2,g3⟩:=dO.flat h4;refine ⟨v::us,⟨v,us,rfl,h3,g1⟩,?_,?_⟩
  ·intro j u hu
   cases j with
   | zero=>simp at hu;subst hu;exact h1
   | succ j=>
    simp at hu;have:=g2 j u hu
    rwa [show o+1+j=o+(j+1) by omega] at this
  ·intro u hu
   simp at hu
   rcases hu with rfl|hu
   ·exact h5
   ·exact g3 u hu
theorem cB.flat {w:World} {J:Nat->Nat->Prop} {b k:Nat}:∀{xs:List (List Dat)} {o:Nat},cB w J b k o xs->(∀x∈xs,x.length=k)/\∃us:List Value,aX w J xs.flatten us/\us.length=xs.length * k/\(∀j v,us[j]? = some v->w.cell? ⟨b,o+j,none⟩=some v)/\∀v∈us,one v=true
 | [],o,_=>⟨by simp,[],by simp [aX],by simp,by simp,by simp⟩
 | x::xs,o,h=>by
  obtain ⟨h1,h2,h3⟩:=h;obtain ⟨us,g1,g2,g3⟩:=dO.flat h2;obtain ⟨p1,vs,p2,p3,p4,p5⟩:=cB.flat h3;have hl:=g1.length;refine ⟨by intro y hy;simp at hy;rcases hy with rfl|hy;exact h1;exact p1 y hy,us++vs,?_,?_,?_,?_⟩
  ·rw [List.flatten_cons];exact g1.append p2
  ·simp [p3,hl,h1,Nat.add_mul];omega
  ·intro j v hv
   by_cases hj:j<us.length
   ·rw [List.getElem?_append_left hj] at hv;exact g2 j v hv
   ·rw [List.getElem?_append_right (by omega)] at hv
    have:=p4 (j - us.length) v hv
    rwa [show o+k+(j - us.length)=o+j by omega] at this
  ·intro v hv
   simp at hv
   rcases hv with hv|hv
   ·exact g3 v hv
   ·exact p5 v hv
theorem dO.of_flat {w:World} {J:Nat->Nat->Prop} {b:Nat}:∀{ds:List Dat} {us:List Value} {o:Nat},aX w J ds us->(∀j v,us[j]? = some v->w.cell? ⟨b,o+j,none⟩=some v/\J b (o+j)/\one v=true)->dO w J b o ds
 | [],us,o,_,_=>trivial
 | d::ds,us,o,h,hc=>by
  obtain ⟨v,us',rfl,g1,g2⟩:=h;have h0:=hc 0 v rfl;refine ⟨⟨v,h0.1,h0.2.1,h0.2.2,g1⟩,dO.of_flat g2 ?_⟩;intro j u hu;have:=hc (j+1) u (by simpa using hu)
  rwa [show o+(j+1)=o+1+j by omega] at this
theorem aX.split {w:World} {J:Nat->Nat->Prop}:∀{xs ys:List Dat} {us:List Value},aX w J (xs++ys) us->aX w J xs (us.take xs.length)/\aX w J ys (us.drop xs.length)
 | [],ys,us,h=>by simpa [aX] using h
 | x::xs,ys,us,h=>by
  obtain ⟨v,us',rfl,g1,g2⟩:=h;obtain ⟨p1,p2⟩:=aX.split g2;exact ⟨⟨v,_,rfl,g1,p1⟩,p2⟩
theorem cB.of_flat {w:World} {J:Nat->Nat->Prop} {b k:Nat}:∀{xs:List (List Dat)} {us:List Value} {o:Nat},(∀x∈xs,x.length=k)->aX w J xs.flatten us->(∀j v,us[j]? = some v->w.cell? ⟨b,o+j,none⟩=some v/\J b (o+j)/\one v=true)->cB w J b k o xs
 | [],us,o,_,_,_=>trivial
 | x::xs,us,o,hk,h,hc=>by
  rw [List.flatten_cons] at h;have hx:=hk x (by simp);obtain ⟨h1,h2⟩:=aX.split h;refine ⟨hx,dO.of_flat h1 ?_,cB.of_flat (fun y hy=>hk y (by simp [hy])) h2 ?_⟩
  ·intro j v hv
   rw [List.getElem?_take] at hv
   split at hv
   ·exact hc j v hv
   ·simp at hv
  ·intro j v hv
   rw [List.getElem?_drop] at hv;have:=hc (x.length+j) v hv
   rwa [show o+(x.length+j)=o+k+j by omega] at this
theorem uE {α:Type} {k:Nat}:∀{xs:List (List α)} (h:∀x∈xs,x.length=k) (m:Nat),m<=xs.length->(xs.drop m).flatten=xs.flatten.drop (m * k)
 | xs,h,0,_=>by simp
 | [],h,m+1,hm=>by simp
 | x::xs,h,m+1,hm=>by
  have hx:=h x (by simp);rw [List.drop_succ_cons,uE (fun y hy=>h y (by simp [hy])) m (by simpa using hm),List.flatten_cons,show (m+1) * k=x.length+m * k by rw [Nat.add_mul,hx];omega,List.drop_length_add_append]
theorem jK {α:Type} {k:Nat}:∀{xs:List (List α)} (h:∀x∈xs,x.length=k) (m:Nat),m<=xs.length->(xs.take m).flatten=xs.flatten.take (m * k)
 | xs,h,0,_=>by simp
 | [],h,m+1,hm=>by simp
 | x::xs,h,m+1,hm=>by
  have hx:=h x (by simp);rw [List.take_succ_cons,List.flatten_cons,jK (fun y hy=>h y (by simp [hy])) m (by simpa using hm),List.flatten_cons,show (m+1) * k=x.length+m * k by rw [Nat.add_mul,hx];omega,List.take_length_add_append]
theorem mM {α:Type} {k:Nat} {xs:List (List α)} (h:∀x∈xs,x.length=k) (off len:Nat) (hle:off+len<=xs.length):((xs.drop off).take len).flatten=(xs.flatten.drop (off * k)).take (len * k):=by
 rw [jK (fun x hx=>h x (List.mem_of_mem_drop hx)) len (by simp;omega),uE h off (by omega)]
section
variable {P : Program} {Q : aH -> St -> Prop} {q : V -> St -> Tree} {c : Cx} {w0 : World} {n : Nat} {gs : Fr} {st : St} {a : Act} {K : Act -> World -> Prop} {Qx : Exit -> Act -> World -> Prop} {o : Oper} {xx : aH -> St -> Tree}
def EG (c:Cx) (k:Nat) (gv:Value) (ys:List (List Dat)):Prop:=
 ((∃x:Option Addr,gv = .slice x 0 0)/\ys=[])\/∃b o cp us,gv = .slice (some ⟨b,o,none⟩) ys.length cp/\ys.length<=cp/\(∀x∈ys,x.length=k)/\aX c.w (Imm c) ys.flatten us/\us.length=ys.length * k/\
  (∀j v,us[j]? = some v->c.w.cell? ⟨b,o+j,none⟩=some v)/\∀v∈us,one v=true
theorem src_ok (r:Rel c w0 n gs st a) {k:Nat} {y:V} {gv:Value} {ys:List (List Dat)} {vb:Option Bool} (hy:aA c y gv) (h:KE st.heap k y=some (vb,ys)) (hvb:vb≠some false):EG c k gv ys:=by
 unfold KE at h
 split at h
 ·simp at h;obtain ⟨_,rfl⟩:=h
  exact .inl ⟨⟨_,hy⟩,rfl⟩
 ·rename_i k' xs z
  split at h
  ·rename_i hb
   have hb:=Nat.eq_of_beq_eq_true hb;simp at h;obtain ⟨_,rfl⟩:=h;subst hb;simp only [aA,aE] at hy
   rcases hy with hy|⟨b,o',cap,e1,e2,e3,e4⟩
   ·obtain ⟨⟨x,hx,_⟩,h0⟩:=hy;exact .inl ⟨⟨x,hx⟩,h0⟩
   obtain ⟨g1,us,g2,g3,g4,g5⟩:=cB.flat e4;exact .inr ⟨b,o',cap,us,e1,e2,g1,g2,g3,g4,g5⟩
  ·simp at h
 ·rename_i id ver off len
  simp only [aA] at hy;rw [r.heap] at hy
  split at h
  ·rename_i k' xs hl
   rw [hl] at hy
   split at h
   ·rename_i hb
    have hb:=Nat.eq_of_beq_eq_true hb;simp at h;obtain ⟨_,rfl⟩:=h;subst hb;obtain ⟨f1,hy⟩:=hy;have hlen:((xs.drop off).take len).length=len:=by simp;omega
    rcases hy with ⟨f2,f3,_⟩|⟨b,o',cap,f2,f3,f4,f5⟩
    ·exact .inl ⟨⟨_,f2⟩,List.eq_nil_of_length_eq_zero (by omega)⟩
    obtain ⟨g1,us,g2,g3,g4,g5⟩:=cB.flat f4;exact .inr ⟨b,o',cap,us,by rw [hlen];exact f2,by rw [hlen];exact f3,g1,g2,g3,g4,g5⟩
   ·simp at h
  ·rename_i k' dE xs hl
   rw [hl] at hy
   split at h
   ·rename_i hb
    have hb1:=Nat.eq_of_beq_eq_true hb;simp only [Option.some.injEq,Prod.mk.injEq] at h;obtain ⟨h0,rfl⟩:=h;have hbv:Nat.beq ver dE = true:=by
     cases hbv:Nat.beq ver dE with
     | false=>rw [hbv] at h0;exact (hvb h0.symm).elim
     | true=>rfl
    have hb2:=Nat.eq_of_beq_eq_true hbv;subst hb1 hb2;obtain ⟨_,_,f⟩:=hy;obtain ⟨f1,f2⟩:=f rfl;have hl' : look c.heap id=some (.mt k ver xs):=by rw [r.heap];exact hl
    obtain ⟨b3,b4,bb⟩:=r.hrel.blk id _ hl';have hlen:((xs.drop off).take len).length=len:=by simp;omega
    rcases f2 with ⟨f2,f3,_⟩|⟨b,o',f2,f3⟩
    ·exact .inl ⟨⟨_,f2⟩,List.eq_nil_of_length_eq_zero (by omega)⟩
    by_cases hl0:len=0
    ·subst hl0
     refine .inr ⟨b,o',(c.pl id).cap - off,[],by simpa using f2,by simp,by simp,by simp [aX],by simp,by simp,by simp⟩
    obtain ⟨vs,e,b1,b2,b5,b6⟩:=bb (by omega);have hfl:((xs.drop off).take len).flatten=(xs.flatten.drop (off * k)).take (len * k):=mM b4 off len (by omega);refine .inr ⟨b,o',(c.pl id).cap - off,((vs.toList.take (xs.length * k)).drop (off * k)).take (len * k),by rw [hlen];exact f2,by rw [hlen];omega,?_,?_,?_,?_,?_⟩
    ·intro x hx
     exact b4 x (List.mem_of_mem_drop (List.mem_of_mem_take hx))
    ·rw [hfl];exact (b5.drop _).take _
    ·have h1:(off+len) * k<=xs.length * k:=Nat.mul_le_mul_right _ f1
     have h2:xs.length * k<=vs.size:=by rw [b2];exact Nat.mul_le_mul_right _ b3
     rw [Nat.add_mul] at h1;rw [hlen];simp;omega
    ·intro j v hv
     rw [List.getElem?_take] at hv
     split at hv
     ·rename_i hj
      rw [List.getElem?_drop,List.getElem?_take] at hv
      split at hv
      ·have WB:0<len:=by
        rcases Nat.eq_zero_or_pos len with h0|h0
        ·subst h0;simp at hj
        ·exact h0
       obtain ⟨rfl,rfl⟩:=f3 (by omega);rw [bY b1];simpa using hv
      ·simp at hv
     ·simp at hv
    ·intro v hv
     exact b6 v (List.mem_of_mem_drop (List.mem_of_mem_take hv))
   ·simp at h
  ·simp at h
 ·simp at h
end
end Uw
namespace Uw
open Go Go.RowKit
variable [Glob]
section
variable {P : Program} {Q : aH -> St -> Prop} {q : V -> St -> Tree} {c : Cx} {w0 : World} {n : Nat} {gs : Fr} {st : St} {a : Act} {K : Act -> World -> Prop} {Qx : Exit -> Act -> World -> Prop} {o : Oper} {xx : aH -> St -> Tree}
theorem yw (r:Rel c w0 n gs st a) (m:Bool) {k cap:Nat} {xs:List (List Dat)} {us:List Value} {vs:Array Value} {e:TypeId} (h1:∀x∈xs,x.length=k) (h2:aX c.w (Imm c) xs.flatten us) (h3:∀v∈us,one v=true)
  (h4:vs.size=cap * k) (h5:xs.length<=cap) (h6:vs.toList.take (xs.length * k)=us) :
  Rel (c.push st.next cap (cA m k xs) (.cells vs e)) w0 n gs (ep st (cA m k xs)) a/\aA (c.push st.next cap (cA m k xs) (.cells vs e)) (.ref st.next 0 0 xs.length) (.slice (some ⟨c.w.heap.size,0,none⟩) xs.length cap):=by
 have hev:Evo c (c.push st.next cap (cA m k xs) (.cells vs e)):=Evo.push r.hrel;have hpl:(c.push st.next cap (cA m k xs) (.cells vs e)).pl st.next=⟨c.w.heap.size,cap⟩:=by simp [Cx.push]
 have hlook:look (c.push st.next cap (cA m k xs) (.cells vs e)).heap st.next=some (cA m k xs):=by simp [Cx.push,ai]
 have hblk:(c.push st.next cap (cA m k xs) (.cells vs e)).w.heap[c.w.heap.size]? = some (.cells vs e (0,0)):=by
  show (c.w.heap.push (.cells vs e))[c.w.heap.size]? = _;simp
 have h2':=aX.keep hev.keeps _ _ h2;have hul:us.length=xs.length * k:=by
  rw [h2.length,fE h1]
 cases m with
 | true=>
  have hb:cJ (c.push st.next cap (cA true k xs) (.cells vs e)) st.next (cA true k xs):=by
   refine ⟨by rw [hpl];exact h5,h1,fun _=>⟨vs,e,by rw [hpl];exact hblk,by rw [hpl];exact h4,by rw [h6];exact h2',by rw [h6];exact h3⟩⟩
  refine ⟨r.push hb,?_⟩;have hpl' : (c.push st.next cap (.mt k 0 xs) (.cells vs e)).pl st.next=⟨c.w.heap.size,cap⟩:=hpl;simp only [aA];rw [hlook];simp only [cA];refine ⟨Nat.le_refl _,⟨_,_,_,rfl⟩,fun _=>⟨by simp,.inr ⟨c.w.heap.size,0,?_,fun _=>?_⟩⟩⟩
  ·rw [hpl'];rfl
  ·rw [hpl'];simp
 | false=>
  have hE:cB (c.push st.next cap (cA false k xs) (.cells vs e)).w (Imm (c.push st.next cap (cA false k xs) (.cells vs e))) c.w.heap.size k 0 xs:=by
   refine cB.of_flat h1 h2' ?_;intro j v hv;have hj:j<us.length:=by
    by_cases hh:j<us.length
    ·exact hh
    ·rw [List.getElem?_eq_none (by omega)] at hv;cases hv
   refine ⟨?_,?_,h3 v (List.mem_of_getElem? hv)⟩
   ·rw [bY hblk]
    rw [<- h6,List.getElem?_take,if_pos (by omega)] at hv;simpa using hv
   ·refine .inr ⟨r.hrel.qV (Nat.le_refl _),?_,?_⟩
    ·show c.w.heap.size<(c.w.heap.push (.cells vs e)).size
     simp
    ·intro id blk hl hph hg
     by_cases hid:st.next=id
     ·subst hid
      rw [hlook] at hl;injection hl with hl;subst hl
      exact ⟨k,xs,rfl,by omega⟩
     ·exfalso
      simp only [Cx.push,ai,if_neg hid] at hl;simp [Cx.push,show id≠st.next from fun h=>hid h.symm] at hg hph;have:=r.hrel.jI hl hph;omega
  have hb:cJ (c.push st.next cap (cA false k xs) (.cells vs e)) st.next (cA false k xs):=by
   refine ⟨by rw [hpl];exact h5,fun _=>⟨vs,e,by rw [hpl];exact hblk,by rw [hpl];exact h4,by rw [hpl];exact hE⟩⟩
  refine ⟨r.push hb,?_⟩;have hpl' : (c.push st.next cap (.arr k xs) (.cells vs e)).pl st.next=⟨c.w.heap.size,cap⟩:=hpl;simp only [aA];rw [hlook];simp only [cA];refine ⟨by simp,.inr ⟨c.w.heap.size,0,cap,rfl,h5,?_,fun _=>?_⟩⟩
  ·have hE' : cB (c.push st.next cap (.arr k xs) (.cells vs e)).w (Imm (c.push st.next cap (.arr k xs) (.cells vs e))) c.w.heap.size k 0 xs:=hE
   simpa using hE'
  ·rw [hpl'];simp
theorem KX (r:Rel c w0 n gs st a) (m:Bool) (k:Nat) {x:Option Addr} (hx:x=none\/∃b o,x=some ⟨b,o,none⟩) :
  Rel (c.zero st.next (cA m k [])) w0 n gs (ep st (cA m k [])) a/\aA (c.zero st.next (cA m k [])) (.ref st.next 0 0 0) (.slice x 0 0):=by
 have hlook:look (c.zero st.next (cA m k [])).heap st.next=some (cA m k []):=by simp [Cx.zero,ai]
 have hpl:(c.zero st.next (cA m k [])).pl st.next=⟨0,0⟩:=by simp [Cx.zero]
 have hph:¬Ph ⟨0,0⟩ (cA m k []):=by cases m<;>simp [cA,Ph]
 refine ⟨r.zero hph ?_,?_⟩
 ·cases m with
  | true=>exact ⟨by simp,by simp,fun h=>by rw [hpl] at h;simp at h⟩
  | false=>exact ⟨by simp,fun h=>by rw [hpl] at h;simp at h⟩
 ·simp only [aA]
  rw [hlook]
  cases m with
  | true=>
   refine ⟨Nat.le_refl _,⟨_,_,_,rfl⟩,fun _=>⟨by simp,?_⟩⟩
   rcases hx with rfl|⟨b,o,rfl⟩
   ·exact .inl ⟨rfl,rfl,rfl,by rw [hpl]⟩
   ·exact .inr ⟨b,o,by rw [hpl];rfl,fun h=>by rw [hpl] at h;simp at h⟩
  | false=>
   refine ⟨by simp,?_⟩
   rcases hx with rfl|⟨b,o,rfl⟩
   ·exact .inl ⟨rfl,rfl,fun _=>by rw [hpl]⟩
   ·exact .inr ⟨b,o,0,rfl,by simp,by simp [cB],fun _=>by rw [hpl];simp⟩
theorem eS {t ty e:TypeId} {i:TypeInfo} {w:World} {base xb:Option Addr} {sLen sCap xc:Nat} (ht:P.underlying t=some (.slice e)) (hi:P.info? e=some i) (hle:sLen<=sCap) :
  (Builtin.append_ #[t,t] ty #[.slice base sLen sCap,.slice xb 0 xc]).run P w = .ok (.slice base sLen sCap) w:=by
 cases base<;>cases xb<;>simp [Builtin.append_,bC ht,Go.sizeOf,typeInfo,hi,Builtin.lenOf,Builtin.firstCells,loadCells,loadCellsFrom,storeCells,hle]
theorem CB {t ty e:TypeId} {i:TypeInfo} {w:World} {g off sLen sCap m cp b o' k:Nat} {cur:Array Value} {e' : TypeId} {news:List Value} (ht:P.underlying t=some (.slice e)) (hi:P.info? e=some i) (hk:i.size=k)
  (hg:w.heap[g]? = some (.cells cur e' (0,0))) (hl:news.length=m * k) (hnews:∀j u,news[j]? = some u->w.cell? ⟨b,o' + j,none⟩=some u) (h1:∀u∈news,one u=true)
  (hroom:sLen+m<=sCap) (hfit:off+sLen * k+news.length<=cur.size) :
  ∃w',(Builtin.append_ #[t,t] ty #[.slice (some ⟨g,off,none⟩) sLen sCap,.slice (some ⟨b,o',none⟩) m cp]).run P w = .ok (.slice (some ⟨g,off,none⟩) (sLen+m) sCap) w'/\Laid w w' g (gJ cur (off+sLen * k) news) e':=by
 obtain ⟨w',hw',L⟩:=jJ (P:=P) g (off+sLen * k) news 0 cur w hg (by omega) h1;refine ⟨w',?_,L⟩;have hf:(Builtin.firstCells k m (.slice (some ⟨b,o',none⟩) m cp)).run P w = .ok news.toArray w:=by
  simp only [Builtin.firstCells];exact run_loadCells hl hnews
 subst hk;simp [Builtin.append_,bC ht,Go.sizeOf,typeInfo,hi,Builtin.lenOf,hroom,hf,addr_add,hw']
theorem bB {cl:Call} {x y:Operand} {t:TypeId} {w w' : World} {v:Value} (ho:o.op = .call cl) (hb:cl.callee = .builtin .append) (hx:cl.args.toList=[x,y]) (ht:cl.argTypes.toList=[t,t])
  (h:(Builtin.append_ #[t,t] o.type #[a.eval x,a.eval y]).run P w = .ok v w'):(execOp a.eval o).run P w = .ok (.value v) w':=by
 obtain ⟨cal,args,ats⟩:=cl;simp only at hb hx ht;subst hb;have hx' : args = #[x,y]:=by rw [<- hx]
 have ht' : ats = #[t,t]:=by rw [<- ht]
 subst hx' ht';simp only [execOp,ho,resolve,invoke,builtin];simp [h]
theorem KY (r:Rel c w0 n gs st a):Rel { c with w:=c.w.drew } w0 n gs st a:=
 r.grow ⟨rfl,rfl,rfl,Nat.le_refl _,fun _ _=>rfl⟩
theorem KZ (c:Cx):Keeps c.w c.w.drew (Imm c) (Imm { c with w:=c.w.drew }):=by
 intro b o' h;exact ⟨h,rfl⟩
structure qt (P:Program) (t e:TypeId) (k bytes:Nat):Prop where
 und:P.underlying t=some (.slice e)
 info:∃i z zs,P.info? e=some i/\i.size=k/\i.bytes=bytes/\i.zero=some z/\jD z.cells.toList=some zs/\z.cells.size=k
 pos:0<bytes
theorem vN (r:Rel c w0 n gs st a) (m:Bool) {k need cap:Nat} {e:TypeId} {z:Value} {xs:List (List Dat)} {us:List Value} (h1:∀x∈xs,x.length=k) (h2:aX c.w (Imm c) xs.flatten us) (h3:∀v∈us,one v=true) (hz:z.cells.size=k) (hn:xs.length=need) (hc:need<=cap) :
  ∃c' : Cx,c'.B=c.B/\c'.J0=c.J0/\c'.w=c.w.drew.alloc (.cells (us.toArray++Builtin.zeroCells z.cells (cap - need)) e)/\Rel c' w0 n gs (ep st (cA m k xs)) a/\
  aA c' (.ref st.next 0 0 xs.length) (.slice (some ⟨c.w.heap.size,0,none⟩) xs.length cap):=by
 have hul:us.length=xs.length * k:=by rw [h2.length,fE h1]
 refine ⟨Cx.push { c with w:=c.w.drew } st.next cap (cA m k xs) (.cells (us.toArray++Builtin.zeroCells z.cells (cap - need)) e),rfl,rfl,rfl,?_⟩;refine yw (KY r) m h1 (aX.keep (KZ c) _ _ h2) h3 ?_ (by omega) ?_
 ·have hz' : (Builtin.zeroCells z.cells (cap - need)).size=(cap - need) * k:=by simp [Builtin.zeroCells,hz]
  rw [Array.size_append,hz',List.size_toArray,hul,hn,<- Nat.add_mul]
  congr 1;omega
 ·rw [Array.toList_append,<- hul];simp
end
end Uw
namespace Uw
open Go Go.RowKit
variable [Glob]
section
variable {P : Program} {Q : aH -> St -> Prop} {q : V -> St -> Tree} {c : Cx} {w0 : World} {n : Nat} {gs : Fr} {st : St} {a : Act} {K : Act -> World -> Prop} {Qx : Exit -> Act -> World -> Prop} {o : Oper} {xx : aH -> St -> Tree}
theorem Rel.aI (r:Rel c w0 n gs st a) {id:Nat} {b b' : Blk} {p' : Pl} (hl:look c.heap id=some b) {w' : World}
  (hother:∀k,k<c.w.heap.size->(Ph (c.pl id) b->k≠(c.pl id).gb)->w'.heap[k]? = c.w.heap[k]?) (hsz:c.w.heap.size<=w'.heap.size) (hbel:Below c.B c.w w')
  (hp:(p'.gb=(c.pl id).gb/\(Ph p' b'->Ph (c.pl id) b))\/c.w.heap.size<=p'.gb)
  (xA:Ph (c.pl id) b->∀o,Imm c (c.pl id).gb o->w'.cell? ⟨(c.pl id).gb,o,none⟩=c.w.cell? ⟨(c.pl id).gb,o,none⟩/\(p'.gb=(c.pl id).gb->∃k xs,b' = .arr k xs/\o<xs.length * k))
  (hbe:c6 (c.pl id) p' b b') (hb:Evo c (c.aI id b' p' w')->cJ (c.aI id b' p' w') id b'):Rel (c.aI id b' p' w') w0 n gs { st with heap:=(id,b')::st.heap } a:=by
 have he:=Evo.aI r.hrel hl hother hsz hp xA hbe;exact r.evo he (by simp [Cx.aI,r.heap]) (r.hrel.aI hl he hother hbel hp (hb he)) rfl rfl rfl (Nat.le_refl _)
theorem wL {t e ty:TypeId} {k bytes g cap len m cp b o' : Nat} {w:World} {vs:Array Value} {e' : TypeId} {us:List Value} (he:qt P t e k bytes) (hg:w.heap[g]? = some (.cells vs e' (0,0))) (hs:vs.size=cap * k) (hlen:len<=cap)
  (hone:∀v∈vs.toList.take (len * k),one v=true)
  (hl:us.length=m * k) (hn:∀j v,us[j]? = some v->w.cell? ⟨b,o' + j,none⟩=some v) (h1:∀v∈us,one v=true) (hby:(len+m) * bytes<=70368744177664) :
  (∃w',(Builtin.append_ #[t,t] ty #[.slice (some ⟨g,0,none⟩) len cap,.slice (some ⟨b,o',none⟩) m cp]).run P w = .ok (.slice (some ⟨g,0,none⟩) (len+m) cap) w'/\len+m<=cap/\Laid w w' g (gJ vs (len * k) us) e')\/
  (∃w' cap' vs',(Builtin.append_ #[t,t] ty #[.slice (some ⟨g,0,none⟩) len cap,.slice (some ⟨b,o',none⟩) m cp]).run P w = .ok (.slice (some ⟨w.heap.size,0,none⟩) (len+m) cap') w'/\len+m<=cap'/\w' = w.drew.alloc (.cells vs' e)/\vs'.size=cap' * k/\
   vs'.toList.take ((len+m) * k)=vs.toList.take (len * k)++us):=by
 obtain ⟨i,z,zs,hi,hsz,G5,hzero,hzs,hzk⟩:=he.info;have mN:=he.und;have hpos:=he.pos;have hle:len+m<=70368744177664:=Nat.le_trans (Nat.le_mul_of_pos_right _ hpos) hby
 have hlk:len * k<=vs.size:=by rw [hs];exact Nat.mul_le_mul_right _ hlen
 by_cases hroom:len+m<=cap
 ·left
  have hfit:0+len * k+us.length<=vs.size:=by
   rw [hl,hs,Nat.zero_add,<- Nat.add_mul];exact Nat.mul_le_mul_right _ hroom
  obtain ⟨w',hw',L⟩:=CB (P:=P) (ty:=ty) (cp:=cp) (off:=0) mN hi hsz hg hl hn h1 hroom hfit;exact ⟨w',hw',hroom,by simpa using L⟩
 ·right
  have hold:(vs.toList.take (len * k)).length=len * k:=by simp;omega
  have hgr:=run_append_grow w t ty e i z mN hi hzero ⟨g,0,none⟩ len cap (vs.toList.take (len * k)) (by rw [hsz];exact hold) (fun j v hv=>by
    rw [addr_add,bY hg];rw [List.getElem?_take] at hv
    split at hv
    ·simpa using hv
    ·simp at hv) ⟨b,o',none⟩ m cp us (by rw [hsz];exact hl) (fun j v hv=>by rw [addr_add];exact hn j v hv) (by omega) (by omega) (growslice_fits (by omega) (by rw [G5];omega))
  have hge:=grownCap_ge w (len+m) cap e;refine ⟨_,grownCap w (len+m) cap e,_,hgr,hge,rfl,?_,?_⟩
  ·have hz' : (Builtin.zeroCells z.cells (grownCap w (len+m) cap e - (len+m))).size=(grownCap w (len+m) cap e - (len+m)) * k:=by simp [Builtin.zeroCells,hzk]
   rw [Array.size_append,Array.size_append,hz',List.size_toArray,List.size_toArray,hold,hl,<- Nat.add_mul,<- Nat.add_mul]
   congr 1;omega
  ·have h3:(vs.toList.take (len * k)++us).length=(len+m) * k:=by rw [List.length_append,hold,hl,Nat.add_mul]
   simp only [Array.toList_append,List.append_assoc];rw [<- List.append_assoc,<- h3];exact List.take_left
theorem uF {t e ty:TypeId} {k bytes m cp b o' b1 o1:Nat} {w:World} {us:List Value} (he:qt P t e k bytes)
  (hl:us.length=m * k) (hn:∀j v,us[j]? = some v->w.cell? ⟨b,o' + j,none⟩=some v) (hm:0<m) (hby:m * bytes<=70368744177664) :
  ∃w' cap' vs',(Builtin.append_ #[t,t] ty #[.slice (some ⟨b1,o1,none⟩) 0 0,.slice (some ⟨b,o',none⟩) m cp]).run P w = .ok (.slice (some ⟨w.heap.size,0,none⟩) m cap') w'/\m<=cap'/\w' = w.drew.alloc (.cells vs' e)/\vs'.size=cap' * k/\
   vs'.toList.take (m * k)=us:=by
 obtain ⟨i,z,zs,hi,hsz,G5,hzero,hzs,hzk⟩:=he.info;have mN:=he.und;have hpos:=he.pos;have hle:m<=70368744177664:=Nat.le_trans (Nat.le_mul_of_pos_right _ hpos) hby
 have hgr:=run_append_grow w t ty e i z mN hi hzero ⟨b1,o1,none⟩ 0 0 [] (by simp) (by simp) ⟨b,o',none⟩ m cp us (by rw [hsz];exact hl) (fun j v hv=>by rw [addr_add];exact hn j v hv) (by omega) (by omega) (growslice_fits (by omega) (by rw [G5,Nat.zero_add];omega));simp only [Nat.zero_add] at hgr;have hge:=grownCap_ge w m 0 e;refine ⟨_,grownCap w m 0 e,_,hgr,hge,rfl,?_,?_⟩
 ·have hz' : (Builtin.zeroCells z.cells (grownCap w m 0 e - m)).size=(grownCap w m 0 e - m) * k:=by simp [Builtin.zeroCells,hzk]
  rw [Array.size_append,Array.size_append,hz',List.size_toArray,List.size_toArray,hl,List.length_nil,Nat.zero_add,<- Nat.add_mul]
  congr 1;omega
 ·simp only [Array.toList_append,List.append_assoc,List.nil_append]
  rw [<- hl];exact List.take_left
theorem yx {vs:Array Value} {us:List Value} {p m:Nat} (h:p+us.length=m) (hm:m<=vs.size):(gJ vs p us).toList.take m=vs.toList.take p++us:=by
 rw [fK];apply List.ext_getElem?;intro j;rw [List.getElem?_take,jt];simp only [Array.length_toList];by_cases hj:j<p
 ·rw [List.getElem?_append_left (by simp;omega),List.getElem?_take,if_pos hj,if_pos (by omega),if_neg (by omega)]
 ·rw [List.getElem?_append_right (by simp;omega)]
  simp only [List.length_take,Array.length_toList];by_cases hjm:j<m
  ·rw [if_pos hjm,if_pos (by omega)]
   congr 1;omega
  ·rw [if_neg hjm]
   rw [List.getElem?_eq_none (by omega)]
theorem Rt (r:Rel c w0 n gs st a) (hK:bn P Q q c w0 n gs st a o.dst K) {cl:Call} {x1 x2:Operand} {t e:TypeId} {k bytes id ver len:Nat} {xs ys:List (List Dat)} (ho:o.op = .call cl) (hb:cl.callee = .builtin .append) (hx:cl.args.toList=[x1,x2]) (ht:cl.argTypes.toList=[t,t])
  (he:qt P t e k bytes) (hl' : look st.heap id=some (.mt k ver xs)) (hv1:aA c (.ref id ver 0 len) (a.eval x1)) (e2:EG c k (a.eval x2) ys) (hby:(len+ys.length) * bytes<=70368744177664)
  (h:WT P Q (q (.ref id (ver+1) 0 (len+ys.length)) { st with heap:=(id,.mt k (ver+1) (xs.take len++ys))::st.heap })):o.wp P a c.w K Qx:=by
 have hl:look c.heap id=some (.mt k ver xs):=by rw [r.heap];exact hl'
 simp only [aA,hl] at hv1;obtain ⟨_,_,hv1⟩:=hv1;obtain ⟨v1,v2⟩:=hv1 rfl;simp only [Nat.zero_add,Nat.sub_zero,Nat.zero_mul] at v1 v2;obtain ⟨b3,b4,bb⟩:=r.hrel.blk id _ hl;have hll:(xs.take len).length=len:=by simp;omega
 have hk1:∀x∈xs.take len,x.length=k:=fun x hx=>b4 x (List.mem_of_mem_take hx);by_cases hcap0:(c.pl id).cap=0
 ·-- there is no room,and nothing
  have hl0:len=0:=by omega
  have hxs:xs=[]:=List.eq_nil_of_length_eq_zero (by omega);subst hl0 hxs;have nph:¬Ph (c.pl id) (.mt k ver []):=by simp [Ph,hcap0]
  obtain ⟨xa,hxa,Az⟩:∃xa:Option Addr,a.eval x1 = .slice xa 0 0/\(xa=none\/∃b o,xa=some ⟨b,o,none⟩):=by
   rcases v2 with ⟨v2,_⟩|⟨b,o1,v2,_⟩
   ·exact ⟨none,v2,.inl rfl⟩
   ·exact ⟨some ⟨b,o1,none⟩,by rw [v2,hcap0],.inr ⟨b,o1,rfl⟩⟩
  have EH:ys=[]->(∃xb xc,a.eval x2 = .slice xb 0 xc)->o.wp P a c.w K Qx:=by
   rintro rfl ⟨xb,xc,hx2⟩;simp only [List.append_nil,List.take_nil,List.length_nil,Nat.add_zero] at h;have hrel:Rel (c.aI id (.mt k (ver+1) []) (c.pl id) c.w) w0 n gs { st with heap:=(id,.mt k (ver+1) [])::st.heap } a:=by
    refine r.aI hl (fun _ _ _=>rfl) (Nat.le_refl _) (Below.refl _ _) (.inl ⟨rfl,fun h=>h⟩) (fun hh=>(nph hh).elim) ⟨rfl,by omega,fun hh=>by omega⟩ (fun hev=>?_);exact ⟨by simp,by simp,fun hh=>by rw [ah.2] at hh;omega⟩
   refine ca (w':=c.w) (bB ho hb hx ht ?_) (hK (c.aI id (.mt k (ver+1) []) (c.pl id) c.w) _ (.ref id (ver+1) 0 0) (.slice xa 0 0) rfl rfl hrel rfl ?_ h)
   ·rw [hxa,hx2]
    obtain ⟨i,z,zs,hi,_⟩:=he.info;exact eS he.und hi (by omega)
   ·simp only [aA,ah.1]
    refine ⟨Nat.le_refl _,⟨_,_,_,rfl⟩,fun _=>⟨by simp,?_⟩⟩;rw [ah.2]
    rcases Az with rfl|⟨b,o1,rfl⟩
    ·exact .inl ⟨rfl,rfl,rfl,hcap0⟩
    ·exact .inr ⟨b,o1,by rw [hcap0],fun hh=>by omega⟩
  rcases e2 with ⟨⟨_,e2⟩,rfl⟩|⟨bb',o',cp,us,e2,e3,e4,e5,e6,e7,e8⟩
  ·exact EH rfl ⟨_,0,e2⟩
  ·by_cases hy0:ys=[]
   ·exact EH hy0 ⟨_,cp,by rw [e2,hy0];rfl⟩
   ·have hpos' : 0<ys.length:=by cases ys<;>simp_all
    simp only [List.take_nil,List.nil_append,Nat.zero_add] at h hby
    have hrun:∃w' cap' vs',(Builtin.append_ #[t,t] o.type #[a.eval x1,a.eval x2]).run P c.w = .ok (.slice (some ⟨c.w.heap.size,0,none⟩) ys.length cap') w'/\ys.length<=cap'/\w' = c.w.drew.alloc (.cells vs' e)/\vs'.size=cap' * k/\vs'.toList.take (ys.length * k)=us:=by
     rcases Az with rfl|⟨b,o1,rfl⟩
     ·obtain ⟨i,z,zs,hi,hsz,G5,hzero,hzs,hzk⟩:=he.info
      have hlen:ys.length<=70368744177664:=Nat.le_trans (Nat.le_mul_of_pos_right _ he.pos) hby
      have hge:=grownCap_ge c.w ys.length 0 e;rw [hxa,e2];refine ⟨_,_,_,run_append_nil c.w t o.type e i z he.und hi hzero ⟨bb',o',none⟩ ys.length cp us (by rw [hsz];exact e6) (fun j v hv=>by rw [addr_add];exact e7 j v hv) hpos' (by omega) (by rw [G5];omega),hge,rfl,?_,?_⟩
      ·have hz' : (Builtin.zeroCells z.cells (grownCap c.w ys.length 0 e - ys.length)).size=(grownCap c.w ys.length 0 e - ys.length) * k:=by simp [Builtin.zeroCells,hzk]
       rw [Array.size_append,hz',List.size_toArray,e6,<- Nat.add_mul]
       congr 1;omega
      ·rw [Array.toList_append,<- e6];simp
     ·rw [hxa,e2]
      exact uF he e6 e7 hpos' hby
    obtain ⟨w',cap',vs',hw',hroom,rfl,hs',htake⟩:=hrun;have hbel:Below c.B c.w (c.w.drew.alloc (.cells vs' e)):=(Below.refl c.B c.w).drew.alloc r.hrel.yr _;have hrel:Rel (c.aI id (.mt k (ver+1) ys) ⟨c.w.heap.size,cap'⟩ (c.w.drew.alloc (.cells vs' e))) w0 n gs { st with heap:=(id,.mt k (ver+1) ys)::st.heap } a:=by
     refine r.aI hl (fun k' hk' _=>Below.heap_alloc c.w.drew _ _ hk') (by rw [show (c.w.drew.alloc (Obj.cells vs' e)).heap=c.w.heap.push (.cells vs' e) from rfl];simp) hbel (.inr (Nat.le_refl _)) (fun hh=>(nph hh).elim) ⟨rfl,by omega,fun hh=>by omega⟩ (fun hev=>?_);refine ⟨by rw [ah.2];exact hroom,e4,fun _=>⟨vs',e,?_,by rw [ah.2];exact hs',?_,?_⟩⟩
     ·rw [ah.2]
      show (c.w.heap.push (.cells vs' e))[c.w.heap.size]? = _;simp
     ·rw [htake];exact aX.keep hev.keeps _ _ e5
     ·rw [htake];exact e8
    refine ca (bB ho hb hx ht hw') (hK (c.aI id (.mt k (ver+1) ys) ⟨c.w.heap.size,cap'⟩ (c.w.drew.alloc (.cells vs' e))) _ (.ref id (ver+1) 0 ys.length) _ rfl rfl hrel rfl ?_ h);simp only [aA,ah.1];refine ⟨Nat.le_refl _,⟨_,_,_,rfl⟩,fun _=>⟨by omega,.inr ⟨c.w.heap.size,0,?_,?_⟩⟩⟩
    ·rw [ah.2];rfl
    ·rw [ah.2];simp
 have hcap:0<(c.pl id).cap:=by omega
 obtain ⟨vs,e',b1,b2,b5,b6⟩:=bb hcap;have hge:=r.hrel.ge id _ hl hcap;have hgb:=r.hrel.geB hl hcap;obtain ⟨b,o1,v2,v3⟩:∃b o,a.eval x1 = .slice (some ⟨b,o,none⟩) len (c.pl id).cap/\(0<(c.pl id).cap->b=(c.pl id).gb/\o=0):=by
  rcases v2 with ⟨_,_,_,v2⟩|v2
  ·omega
  ·exact v2
 have hlk:len * k<=xs.length * k:=Nat.mul_le_mul_right _ v1;have hsz:xs.length * k<=vs.size:=by rw [b2];exact Nat.mul_le_mul_right _ b3
 have htk:(vs.toList.take (xs.length * k)).take (len * k)=vs.toList.take (len * k):=by rw [List.take_take];congr 1;omega
 have hold:aX c.w (Imm c) (xs.take len).flatten (vs.toList.take (len * k)):=by
  rw [jK b4 len v1,<- htk];exact b5.take _
 have hone:∀v∈vs.toList.take (len * k),one v=true:=fun v hv=>b6 v (by rw [<- htk] at hv;exact List.mem_of_mem_take hv);have K0:∀o,Imm c (c.pl id).gb o->False:=by
  intro o hi
  rcases hi with hi|⟨_,_,g3⟩
  ·exact hge hi.1
  ·obtain ⟨_,_,hh,_⟩:=g3 id _ hl hcap rfl;cases hh
 -- nothing is appended
 have zero:ys=[]->(∃xb xc,a.eval x2 = .slice xb 0 xc)->o.wp P a c.w K Qx:=by
  rintro rfl ⟨xb,xc,hx2⟩;simp only [List.append_nil,List.length_nil,Nat.add_zero] at h;have hrel:Rel (c.aI id (.mt k (ver+1) (xs.take len)) (c.pl id) c.w) w0 n gs { st with heap:=(id,.mt k (ver+1) (xs.take len))::st.heap } a:=by
   refine r.aI hl (fun _ _ _=>rfl) (Nat.le_refl _) (Below.refl _ _) (.inl ⟨rfl,fun _=>hcap⟩) (fun _ o hi=>(K0 o hi).elim) ⟨rfl,by omega,fun hh=>by omega⟩ (fun hev=>?_);refine ⟨by rw [ah.2];omega,hk1,fun _=>⟨vs,e',by rw [ah.2];exact b1,by rw [ah.2];exact b2,?_,?_⟩⟩
   ·rw [hll];exact aX.keep hev.keeps _ _ hold
   ·rw [hll];exact hone
  refine ca (w':=c.w) (bB ho hb hx ht ?_) (hK (c.aI id (.mt k (ver+1) (xs.take len)) (c.pl id) c.w) _ (.ref id (ver+1) 0 len) (a.eval x1) rfl rfl hrel rfl ?_ h)
  ·rw [v2,hx2]
   obtain ⟨i,z,zs,hi,_⟩:=he.info;exact eS he.und hi (by omega)
  ·simp only [aA,ah.1]
   refine ⟨Nat.le_refl _,⟨_,_,_,v2⟩,fun _=>⟨by omega,.inr ⟨b,o1,?_,?_⟩⟩⟩
   ·rw [ah.2];exact v2
   ·rw [ah.2];simpa using v3
 rcases e2 with ⟨⟨_,e2⟩,rfl⟩|⟨bb,o',cp,us,e2,e3,e4,e5,e6,e7,e8⟩
 ·exact zero rfl ⟨_,0,e2⟩
 ·by_cases hy0:ys=[]
  ·exact zero hy0 ⟨_,cp,by rw [e2,hy0];rfl⟩
  ·have hpos' : 0<ys.length:=by cases ys<;>simp_all
   have hk2:∀x∈xs.take len++ys,x.length=k:=fun x hx=>by rcases List.mem_append.1 hx with hx|hx;exact hk1 x hx;exact e4 x hx
   have hfl:aX c.w (Imm c) (xs.take len++ys).flatten (vs.toList.take (len * k)++us):=by rw [List.flatten_append];exact hold.append e5
   have yy:∀v∈vs.toList.take (len * k)++us,one v=true:=fun v hv=>by rcases List.mem_append.1 hv with hv|hv;exact hone v hv;exact e8 v hv
   have vO:(xs.take len++ys).length=len+ys.length:=by rw [List.length_append,hll]
   -- it moves
   have moved:∀(w' : World) (cap' : Nat) (vs' : Array Value),(Builtin.append_ #[t,t] o.type #[a.eval x1,a.eval x2]).run P c.w = .ok (.slice (some ⟨c.w.heap.size,0,none⟩) (len+ys.length) cap') w'->len+ys.length<=cap'->w' = c.w.drew.alloc (.cells vs' e)->vs'.size=cap' * k->
     vs'.toList.take ((len+ys.length) * k)=vs.toList.take (len * k)++us->o.wp P a c.w K Qx:=by
    rintro w' cap' vs' hw' hroom rfl hs' htake;have hbel:Below c.B c.w (c.w.drew.alloc (.cells vs' e)):=(Below.refl c.B c.w).drew.alloc r.hrel.yr _;have hrel:Rel (c.aI id (.mt k (ver+1) (xs.take len++ys)) ⟨c.w.heap.size,cap'⟩ (c.w.drew.alloc (.cells vs' e))) w0 n gs { st with heap:=(id,.mt k (ver+1) (xs.take len++ys))::st.heap } a:=by
     refine r.aI hl (fun k' hk' _=>Below.heap_alloc c.w.drew _ _ hk') (by rw [show (c.w.drew.alloc (Obj.cells vs' e)).heap=c.w.heap.push (.cells vs' e) from rfl];simp) hbel (.inr (Nat.le_refl _)) (fun _ o hi=>(K0 o hi).elim) ⟨rfl,by omega,fun hh=>by omega⟩ (fun hev=>?_);refine ⟨by rw [ah.2,vO];exact hroom,hk2,fun _=>⟨vs',e,?_,by rw [ah.2];exact hs',?_,?_⟩⟩
     ·rw [ah.2]
      show (c.w.heap.push (.cells vs' e))[c.w.heap.size]? = _;simp
     ·rw [vO,htake];exact aX.keep hev.keeps _ _ hfl
     ·rw [vO,htake];exact yy
    refine ca (bB ho hb hx ht hw') (hK (c.aI id (.mt k (ver+1) (xs.take len++ys)) ⟨c.w.heap.size,cap'⟩ (c.w.drew.alloc (.cells vs' e))) _ (.ref id (ver+1) 0 (len+ys.length)) _ rfl rfl hrel rfl ?_ h);simp only [aA,ah.1];refine ⟨Nat.le_refl _,⟨_,_,_,rfl⟩,fun _=>⟨by omega,.inr ⟨c.w.heap.size,0,?_,?_⟩⟩⟩
    ·rw [ah.2];rfl
    ·rw [ah.2];simp
   obtain ⟨rfl,rfl⟩:=v3 hcap
   rcases wL (ty:=o.type) (cp:=cp) he b1 b2 (by omega) hone e6 e7 e8 hby with ⟨w',hw',hroom,L⟩|⟨w',cap',vs',hw',hroom,rfl,hs',htake⟩
   ·have hrel:Rel (c.aI id (.mt k (ver+1) (xs.take len++ys)) (c.pl id) w') w0 n gs { st with heap:=(id,.mt k (ver+1) (xs.take len++ys))::st.heap } a:=by
     refine r.aI hl (fun k' _ hk'=>L.other k' (hk' hcap)) (by rw [L.size];exact Nat.le_refl _) (L.below hgb) (.inl ⟨rfl,fun _=>hcap⟩) (fun _ o hi=>(K0 o hi).elim) ⟨rfl,by omega,fun hh=>by omega⟩ (fun hev=>?_);have NQ:(gJ vs (len * k) us).toList.take ((xs.take len++ys).length * k)=vs.toList.take (len * k)++us:=by
      refine yx ?_ ?_
      ·rw [vO,e6,Nat.add_mul]
      ·rw [vO,b2];exact Nat.mul_le_mul_right _ hroom
     refine ⟨by rw [ah.2,vO];exact hroom,hk2,fun _=>⟨_,e',by rw [ah.2];exact L.here,by rw [ah.2,mL];exact b2,?_,?_⟩⟩
     ·rw [NQ];exact aX.keep hev.keeps _ _ hfl
     ·rw [NQ];exact yy
    refine ca (w':=w') (bB ho hb hx ht (by rw [v2,e2];exact hw')) (hK (c.aI id (.mt k (ver+1) (xs.take len++ys)) (c.pl id) w') _ (.ref id (ver+1) 0 (len+ys.length)) _ rfl rfl hrel rfl ?_ h);simp only [aA,ah.1];refine ⟨Nat.le_refl _,⟨_,_,_,rfl⟩,fun _=>⟨by omega,.inr ⟨(c.pl id).gb,0,?_,?_⟩⟩⟩
    ·rw [ah.2];rfl
    ·rw [ah.2];simp
   ·exact moved _ cap' vs' (by rw [v2,e2];exact hw') hroom rfl hs' htake
end
end Uw
namespace Uw
open Go Go.RowKit
variable [Glob]
section
variable {P : Program} {Q : aH -> St -> Prop} {q : V -> St -> Tree} {c : Cx} {w0 : World} {n : Nat} {gs : Fr} {st : St} {a : Act} {K : Act -> World -> Prop} {Qx : Exit -> Act -> World -> Prop} {o : Oper} {xx : aH -> St -> Tree}
theorem CG {c' : Cx} {id k cap gb:Nat} {xs:List (List Dat)} {us:List Value} {vs:Array Value} {e:TypeId} {w0' : World} {next:Nat} (hlook:look c'.heap id=some (.arr k xs)) (hpl:c'.pl id=⟨gb,cap⟩) (hblk:c'.w.heap[gb]? = some (.cells vs e (0,0))) (hB:¬c'.Old gb)
  (hinj:∀id' b',look c'.heap id' = some b'->Ph (c'.pl id') b'->(c'.pl id').gb=gb->id' = id)
  (h1:∀x∈xs,x.length=k) (h2:aX c'.w (Imm c') xs.flatten us) (h3:∀v∈us,one v=true) (h6:vs.toList.take (xs.length * k)=us):cB c'.w (Imm c') gb k 0 xs:=by
 have hul:us.length=xs.length * k:=by rw [h2.length,fE h1]
 refine cB.of_flat h1 h2 ?_;intro j v hv;have hj:j<us.length:=by
  by_cases hh:j<us.length
  ·exact hh
  ·rw [List.getElem?_eq_none (by omega)] at hv;cases hv
 refine ⟨?_,?_,h3 v (List.mem_of_getElem? hv)⟩
 ·rw [bY hblk]
  rw [<- h6,List.getElem?_take,if_pos (by omega)] at hv;simpa using hv
 ·refine .inr ⟨hB,?_,?_⟩
  ·by_cases hlt:gb<c'.w.heap.size
   ·exact hlt
   ·rw [Array.getElem?_eq_none (by omega)] at hblk;cases hblk
  ·intro id' blk hl hph hg
   have:=hinj id' blk hl hph hg;subst this;rw [hlook] at hl;injection hl with hl;subst hl
   exact ⟨k,xs,rfl,by omega⟩
theorem NR (r:Rel c w0 n gs st a) (hK:bn P Q q c w0 n gs st a o.dst K) {cl:Call} {x1 x2:Operand} {t e:TypeId} {k bytes id ver len:Nat} {xs ys:List (List Dat)} (ho:o.op = .call cl) (hb:cl.callee = .builtin .append) (hx:cl.args.toList=[x1,x2]) (ht:cl.argTypes.toList=[t,t])
  (he:qt P t e k bytes) (hl' : look st.heap id=some (.arr k xs)) (hv1:aA c (.ref id ver 0 len) (a.eval x1)) (e2:EG c k (a.eval x2) ys) (hlen:len=xs.length) (hby:(len+ys.length) * bytes<=70368744177664)
  (h:WT P Q (q (.ref id 0 0 (len+ys.length)) { st with heap:=(id,.arr k (xs++ys))::st.heap })):o.wp P a c.w K Qx:=by
 have hl:look c.heap id=some (.arr k xs):=by rw [r.heap];exact hl'
 subst hlen;simp only [aA,hl] at hv1;obtain ⟨_,hv1⟩:=hv1;obtain ⟨b3,bb⟩:=r.hrel.blk id _ hl;by_cases hcap0:(c.pl id).cap=0
 ·-- there is no room,and nothing
  have hxs:xs=[]:=List.eq_nil_of_length_eq_zero (by omega);subst hxs;have nph:¬Ph (c.pl id) (.arr k []):=by simp [Ph,hcap0]
  obtain ⟨xa,hxa,Az⟩:∃xa:Option Addr,a.eval x1 = .slice xa 0 0/\(xa=none\/∃b o,xa=some ⟨b,o,none⟩):=by
   rcases hv1 with ⟨v2,_⟩|⟨b,o1,cap,v2,_,_,v3⟩
   ·exact ⟨none,v2,.inl rfl⟩
   ·obtain ⟨v3,_⟩:=v3 (by simp)
    exact ⟨some ⟨b,o1,none⟩,by rw [v2,v3,hcap0];rfl,.inr ⟨b,o1,rfl⟩⟩
  have EH:ys=[]->(∃xb xc,a.eval x2 = .slice xb 0 xc)->o.wp P a c.w K Qx:=by
   rintro rfl ⟨xb,xc,hx2⟩;simp only [List.append_nil,List.length_nil,Nat.add_zero] at h;have hrel:Rel (c.aI id (.arr k []) (c.pl id) c.w) w0 n gs { st with heap:=(id,.arr k [])::st.heap } a:=by
    refine r.aI hl (fun _ _ _=>rfl) (Nat.le_refl _) (Below.refl _ _) (.inl ⟨rfl,fun h=>h⟩) (fun hh=>(nph hh).elim) ⟨rfl,⟨[],rfl⟩,fun _=>rfl⟩ (fun hev=>?_);exact ⟨by simp,fun hh=>by rw [ah.2] at hh;omega⟩
   refine ca (w':=c.w) (bB ho hb hx ht ?_) (hK (c.aI id (.arr k []) (c.pl id) c.w) _ (.ref id 0 0 0) (.slice xa 0 0) rfl rfl hrel rfl ?_ h)
   ·rw [hxa,hx2]
    obtain ⟨i,z,zs,hi,_⟩:=he.info;exact eS he.und hi (by omega)
   ·simp only [aA,ah.1]
    refine ⟨by simp,?_⟩;rw [ah.2]
    rcases Az with rfl|⟨b,o1,rfl⟩
    ·exact .inl ⟨rfl,rfl,fun _=>hcap0⟩
    ·exact .inr ⟨b,o1,0,rfl,by simp,by simp [cB],fun _=>⟨by rw [hcap0],fun hh=>by omega⟩⟩
  rcases e2 with ⟨⟨_,e2⟩,rfl⟩|⟨bb',o',cp,us,e2,e3,e4,e5,e6,e7,e8⟩
  ·exact EH rfl ⟨_,0,e2⟩
  ·by_cases hy0:ys=[]
   ·exact EH hy0 ⟨_,cp,by rw [e2,hy0];rfl⟩
   ·have hpos' : 0<ys.length:=by cases ys<;>simp_all
    simp only [List.nil_append,List.length_nil,Nat.zero_add] at h hby
    have hrun:∃w' cap' vs',(Builtin.append_ #[t,t] o.type #[a.eval x1,a.eval x2]).run P c.w = .ok (.slice (some ⟨c.w.heap.size,0,none⟩) ys.length cap') w'/\ys.length<=cap'/\w' = c.w.drew.alloc (.cells vs' e)/\vs'.size=cap' * k/\vs'.toList.take (ys.length * k)=us:=by
     rcases Az with rfl|⟨b,o1,rfl⟩
     ·obtain ⟨i,z,zs,hi,hsz,G5,hzero,hzs,hzk⟩:=he.info
      have hlen:ys.length<=70368744177664:=Nat.le_trans (Nat.le_mul_of_pos_right _ he.pos) hby
      have hge:=grownCap_ge c.w ys.length 0 e;rw [hxa,e2];refine ⟨_,_,_,run_append_nil c.w t o.type e i z he.und hi hzero ⟨bb',o',none⟩ ys.length cp us (by rw [hsz];exact e6) (fun j v hv=>by rw [addr_add];exact e7 j v hv) hpos' (by omega) (by rw [G5];omega),hge,rfl,?_,?_⟩
      ·have hz' : (Builtin.zeroCells z.cells (grownCap c.w ys.length 0 e - ys.length)).size=(grownCap c.w ys.length 0 e - ys.length) * k:=by simp [Builtin.zeroCells,hzk]
       rw [Array.size_append,hz',List.size_toArray,e6,<- Nat.add_mul]
       congr 1;omega
      ·rw [Array.toList_append,<- e6];simp
     ·rw [hxa,e2]
      exact uF he e6 e7 hpos' hby
    obtain ⟨w',cap',vs',hw',hroom,rfl,hs',htake⟩:=hrun;have hbel:Below c.B c.w (c.w.drew.alloc (.cells vs' e)):=(Below.refl c.B c.w).drew.alloc r.hrel.yr _;have hblk:(c.w.drew.alloc (.cells vs' e)).heap[c.w.heap.size]? = some (.cells vs' e (0,0)):=by
     show (c.w.heap.push (.cells vs' e))[c.w.heap.size]? = _;simp
    have hsz2:c.w.heap.size<=(c.w.drew.alloc (.cells vs' e)).heap.size:=by rw [show (c.w.drew.alloc (Obj.cells vs' e)).heap=c.w.heap.push (.cells vs' e) from rfl];simp
    have hbe:c6 (c.pl id) ⟨c.w.heap.size,cap'⟩ (.arr k []) (.arr k ys):=⟨rfl,⟨ys,rfl⟩,fun hh=>(hy0 hh).elim⟩
    have hev:=Evo.aI (p':=⟨c.w.heap.size,cap'⟩) (b':=.arr k ys) (w':=c.w.drew.alloc (.cells vs' e)) r.hrel hl (fun k' hk' _=>Below.heap_alloc c.w.drew _ _ hk') hsz2 (.inr (Nat.le_refl _)) (fun hh=>(nph hh).elim) hbe;have TU:∀id' x,look (c.aI id (.arr k ys) ⟨c.w.heap.size,cap'⟩ (c.w.drew.alloc (.cells vs' e))).heap id' = some x->Ph ((c.aI id (.arr k ys) ⟨c.w.heap.size,cap'⟩ (c.w.drew.alloc (.cells vs' e))).pl id') x->((c.aI id (.arr k ys) ⟨c.w.heap.size,cap'⟩ (c.w.drew.alloc (.cells vs' e))).pl id').gb=c.w.heap.size->id' = id:=by
     intro id' x hx hph hg;by_cases hid:id=id'
     ·exact hid.symm
     ·exfalso
      rw [(bq hid).1] at hx;rw [(bq hid).2] at hg hph;have:=r.hrel.jI hx hph;omega
    have hE:cB (c.aI id (.arr k ys) ⟨c.w.heap.size,cap'⟩ (c.w.drew.alloc (.cells vs' e))).w (Imm (c.aI id (.arr k ys) ⟨c.w.heap.size,cap'⟩ (c.w.drew.alloc (.cells vs' e)))) c.w.heap.size k 0 ys:=
     CG (w0':=w0) (next:=0) ah.1 ah.2 hblk (r.hrel.qV (Nat.le_refl _)) TU e4 (aX.keep hev.keeps _ _ e5) e8 htake
    have hrel:Rel (c.aI id (.arr k ys) ⟨c.w.heap.size,cap'⟩ (c.w.drew.alloc (.cells vs' e))) w0 n gs { st with heap:=(id,.arr k ys)::st.heap } a:=by
     refine r.aI hl (fun k' hk' _=>Below.heap_alloc c.w.drew _ _ hk') hsz2 hbel (.inr (Nat.le_refl _)) (fun hh=>(nph hh).elim) hbe (fun _=>?_);exact ⟨by rw [ah.2];exact hroom,fun _=>⟨vs',e,by rw [ah.2];exact hblk,by rw [ah.2];exact hs',by rw [ah.2];exact hE⟩⟩
    refine ca (bB ho hb hx ht hw') (hK (c.aI id (.arr k ys) ⟨c.w.heap.size,cap'⟩ (c.w.drew.alloc (.cells vs' e))) _ (.ref id 0 0 ys.length) _ rfl rfl hrel rfl ?_ h);simp only [aA,ah.1];refine ⟨by omega,.inr ⟨c.w.heap.size,0,cap',rfl,hroom,?_,fun _=>?_⟩⟩
    ·rw [List.drop_zero,List.take_of_length_le (by omega)];exact hE
    ·rw [ah.2];simp
 have hcap:0<(c.pl id).cap:=by omega
 obtain ⟨vs,e',b1,b2,b4⟩:=bb hcap;have hge:=r.hrel.ge id _ hl hcap;have hgb:=r.hrel.geB hl hcap;obtain ⟨b,o1,v2,v4,v5,v3⟩:∃b o1,a.eval x1 = .slice (some ⟨b,o1,none⟩) xs.length (c.pl id).cap/\xs.length<=(c.pl id).cap/\cB c.w (Imm c) b k o1 ((xs.drop 0).take xs.length)/\(0<(c.pl id).cap->b=(c.pl id).gb/\o1=0):=by
  rcases hv1 with ⟨_,v2,v3⟩|⟨b,o1,cap,v2,v4,v5,v3⟩
  ·have:=v3 (by omega);omega
  ·obtain ⟨v6,v3'⟩:=v3 (by omega)
   simp only [Nat.sub_zero,Nat.zero_mul] at v6 v3';subst v6;exact ⟨b,o1,v2,v4,v5,v3'⟩
 obtain ⟨hk1,olds,p2,p3,p4,p5⟩:=cB.flat b4;have hsz:xs.length * k<=vs.size:=by rw [b2];exact Nat.mul_le_mul_right _ b3
 have hold:vs.toList.take (xs.length * k)=olds:=by
  apply List.ext_getElem?;intro j;rw [List.getElem?_take];by_cases hj:j<xs.length * k
  ·rw [if_pos hj]
   have hj' : j<olds.length:=by omega
   have:=p4 j olds[j] (List.getElem?_eq_getElem hj');rw [bY b1] at this;rw [List.getElem?_eq_getElem hj'];simpa using this
  ·rw [if_neg hj,List.getElem?_eq_none (by omega)]
 have QI:∀o',Imm c (c.pl id).gb o'->o' < xs.length * k:=by
  intro o' hi
  rcases hi with hi|⟨_,_,g3⟩
  ·exact (hge hi.1).elim
  ·obtain ⟨k',xs',hh,h4⟩:=g3 id _ hl hcap rfl
   injection hh with h5 h6
   subst h5 h6;exact h4
 have hinj:∀(b' : Blk) (p' : Pl) (w' : World),(p'.gb=(c.pl id).gb\/c.w.heap.size<=p'.gb)->∀id' x,look (c.aI id b' p' w').heap id' = some x->Ph ((c.aI id b' p' w').pl id') x->((c.aI id b' p' w').pl id').gb=p'.gb->id' = id:=by
  intro b' p' w' hp id' x hx hph hg;by_cases hid:id=id'
  ·exact hid.symm
  ·exfalso
   rw [(bq hid).1] at hx;rw [(bq hid).2] at hg hph;have:=r.hrel.jI hx hph
   rcases hp with hp|hp
   ·exact hid (r.hrel.inj id' id x _ hx hl hph hcap (by rw [hg,hp])).symm
   ·omega
 have zero:ys=[]->(∃xb xc,a.eval x2 = .slice xb 0 xc)->o.wp P a c.w K Qx:=by
  rintro rfl ⟨xb,xc,hx2⟩;simp only [List.append_nil,List.length_nil,Nat.add_zero] at h;have xA:∀o',Imm c (c.pl id).gb o'->c.w.cell? ⟨(c.pl id).gb,o',none⟩=c.w.cell? ⟨(c.pl id).gb,o',none⟩/\((c.pl id).gb=(c.pl id).gb->∃k' xs',Blk.arr k xs = .arr k' xs'/\o' < xs'.length * k'):=
   fun o' hi=>⟨rfl,fun _=>⟨k,xs,rfl,QI o' hi⟩⟩
  have hbe:c6 (c.pl id) (c.pl id) (.arr k xs) (.arr k xs):=⟨rfl,⟨[],by simp⟩,fun _=>rfl⟩
  have hev:=Evo.aI (p':=c.pl id) (b':=.arr k xs) r.hrel hl (fun _ _ _=>rfl) (Nat.le_refl _) (.inl ⟨rfl,fun _=>hcap⟩) (fun _=>xA) hbe;have hrel:Rel (c.aI id (.arr k xs) (c.pl id) c.w) w0 n gs { st with heap:=(id,.arr k xs)::st.heap } a:=by
   refine r.aI hl (fun _ _ _=>rfl) (Nat.le_refl _) (Below.refl _ _) (.inl ⟨rfl,fun _=>hcap⟩) (fun _=>xA) hbe (fun hev=>?_);refine ⟨by rw [ah.2];exact b3,fun _=>⟨vs,e',by rw [ah.2];exact b1,by rw [ah.2];exact b2,by rw [ah.2];exact cB.keep hev.keeps _ _ _ _ b4⟩⟩
  refine ca (w':=c.w) (bB ho hb hx ht ?_) (hK (c.aI id (.arr k xs) (c.pl id) c.w) _ (.ref id 0 0 xs.length) (a.eval x1) rfl rfl hrel rfl ?_ h)
  ·rw [v2,hx2]
   obtain ⟨i,z,zs,hi,_⟩:=he.info;exact eS he.und hi (by omega)
  ·simp only [aA,ah.1]
   refine ⟨by omega,.inr ⟨b,o1,(c.pl id).cap,v2,v4,cB.keep hev.keeps _ _ _ _ v5,fun _=>?_⟩⟩;rw [ah.2];exact ⟨rfl,by simpa using v3⟩
 rcases e2 with ⟨⟨_,e2⟩,rfl⟩|⟨bb,o',cp,us,e2,e3,e4,e5,e6,e7,e8⟩
 ·exact zero rfl ⟨_,0,e2⟩
 ·by_cases hy0:ys=[]
  ·exact zero hy0 ⟨_,cp,by rw [e2,hy0];rfl⟩
  ·have hpos' : 0<ys.length:=by cases ys<;>simp_all
   have hk2:∀x∈xs++ys,x.length=k:=fun x hx=>by rcases List.mem_append.1 hx with hx|hx;exact hk1 x hx;exact e4 x hx
   have hfl:aX c.w (Imm c) (xs++ys).flatten (olds++us):=by rw [List.flatten_append];exact p2.append e5
   have yy:∀v∈olds++us,one v=true:=fun v hv=>by rcases List.mem_append.1 hv with hv|hv;exact p5 v hv;exact e8 v hv
   have vO:(xs++ys).length=xs.length+ys.length:=List.length_append;have hne:(xs++ys=xs->False):=fun hh=>by have:=congrArg List.length hh;rw [List.length_append] at this;omega
   -- it moves
   have moved:∀(w' : World) (cap' : Nat) (vs' : Array Value),(Builtin.append_ #[t,t] o.type #[a.eval x1,a.eval x2]).run P c.w = .ok (.slice (some ⟨c.w.heap.size,0,none⟩) (xs.length+ys.length) cap') w'->xs.length+ys.length<=cap'->w' = c.w.drew.alloc (.cells vs' e)->vs'.size=cap' * k->
     vs'.toList.take ((xs.length+ys.length) * k)=olds++us->o.wp P a c.w K Qx:=by
    rintro w' cap' vs' hw' hroom rfl hs' htake;have hbel:Below c.B c.w (c.w.drew.alloc (.cells vs' e)):=(Below.refl c.B c.w).drew.alloc r.hrel.yr _;have hblk:(c.w.drew.alloc (.cells vs' e)).heap[c.w.heap.size]? = some (.cells vs' e (0,0)):=by
     show (c.w.heap.push (.cells vs' e))[c.w.heap.size]? = _;simp
    have hlt:=r.hrel.jI hl hcap;have xA:∀o',Imm c (c.pl id).gb o'->(c.w.drew.alloc (.cells vs' e)).cell? ⟨(c.pl id).gb,o',none⟩=c.w.cell? ⟨(c.pl id).gb,o',none⟩/\(c.w.heap.size=(c.pl id).gb->∃k' xs',Blk.arr k (xs++ys) = .arr k' xs'/\o' < xs'.length * k'):=
     fun o' hi=>⟨cell_of_block (Below.heap_alloc c.w.drew _ _ hlt),fun hh=>by omega⟩
    have hbe:c6 (c.pl id) ⟨c.w.heap.size,cap'⟩ (.arr k xs) (.arr k (xs++ys)):=⟨rfl,⟨ys,rfl⟩,fun hh=>(hne hh).elim⟩
    have hsz2:c.w.heap.size<=(c.w.drew.alloc (.cells vs' e)).heap.size:=by rw [show (c.w.drew.alloc (Obj.cells vs' e)).heap=c.w.heap.push (.cells vs' e) from rfl];simp
    have hev:=Evo.aI (p':=⟨c.w.heap.size,cap'⟩) (b':=.arr k (xs++ys)) (w':=c.w.drew.alloc (.cells vs' e)) r.hrel hl (fun k' hk' _=>Below.heap_alloc c.w.drew _ _ hk') hsz2 (.inr (Nat.le_refl _)) (fun _=>xA) hbe;have hE:cB (c.aI id (.arr k (xs++ys)) ⟨c.w.heap.size,cap'⟩ (c.w.drew.alloc (.cells vs' e))).w (Imm (c.aI id (.arr k (xs++ys)) ⟨c.w.heap.size,cap'⟩ (c.w.drew.alloc (.cells vs' e)))) c.w.heap.size k 0 (xs++ys):=
     CG (w0':=w0) (next:=0) ah.1 ah.2 hblk (r.hrel.qV (Nat.le_refl _)) (hinj _ _ _ (.inr (Nat.le_refl _))) hk2 (aX.keep hev.keeps _ _ hfl) yy (by rw [vO];exact htake)
    have hrel:Rel (c.aI id (.arr k (xs++ys)) ⟨c.w.heap.size,cap'⟩ (c.w.drew.alloc (.cells vs' e))) w0 n gs { st with heap:=(id,.arr k (xs++ys))::st.heap } a:=by
     refine r.aI hl (fun k' hk' _=>Below.heap_alloc c.w.drew _ _ hk') hsz2 hbel (.inr (Nat.le_refl _)) (fun _=>xA) hbe (fun _=>?_);exact ⟨by rw [ah.2,vO];exact hroom,fun _=>⟨vs',e,by rw [ah.2];exact hblk,by rw [ah.2];exact hs',by rw [ah.2];exact hE⟩⟩
    refine ca (bB ho hb hx ht hw') (hK (c.aI id (.arr k (xs++ys)) ⟨c.w.heap.size,cap'⟩ (c.w.drew.alloc (.cells vs' e))) _ (.ref id 0 0 (xs.length+ys.length)) _ rfl rfl hrel rfl ?_ h);simp only [aA,ah.1];refine ⟨by omega,.inr ⟨c.w.heap.size,0,cap',rfl,hroom,?_,fun _=>?_⟩⟩
    ·rw [List.drop_zero,List.take_of_length_le (by omega)];exact hE
    ·rw [ah.2];simp
   ·obtain ⟨rfl,rfl⟩:=v3 hcap
    rcases wL (ty:=o.type) (cp:=cp) he b1 b2 b3 (by rw [hold];exact p5) e6 e7 e8 hby with ⟨w',hw',hroom,L⟩|⟨w',cap',vs',hw',hroom,hw2,hs',htake⟩
    ·have hlk:xs.length * k+us.length<=vs.size:=by rw [e6,b2,<- Nat.add_mul];exact Nat.mul_le_mul_right _ hroom
     have NQ:(gJ vs (xs.length * k) us).toList.take ((xs++ys).length * k)=olds++us:=by
      rw [<- hold];refine yx ?_ ?_
      ·rw [vO,e6,Nat.add_mul]
      ·rw [vO,b2];exact Nat.mul_le_mul_right _ hroom
     have xA:∀o',Imm c (c.pl id).gb o'->w'.cell? ⟨(c.pl id).gb,o',none⟩=c.w.cell? ⟨(c.pl id).gb,o',none⟩/\((c.pl id).gb=(c.pl id).gb->∃k' xs',Blk.arr k (xs++ys) = .arr k' xs'/\o' < xs'.length * k'):=by
      intro o' hi;have hlt:=QI o' hi;refine ⟨?_,fun _=>⟨k,xs++ys,rfl,by rw [vO,Nat.add_mul];omega⟩⟩;rw [bY L.here,bY b1,<- Array.getElem?_toList,fK,jt,if_neg (by omega),Array.getElem?_toList]
     have hbe:c6 (c.pl id) (c.pl id) (.arr k xs) (.arr k (xs++ys)):=⟨rfl,⟨ys,rfl⟩,fun _=>rfl⟩
     have hev:=Evo.aI (p':=c.pl id) (b':=.arr k (xs++ys)) (w':=w') r.hrel hl (fun k' _ hk'=>L.other k' (hk' hcap)) (by rw [L.size];exact Nat.le_refl _) (.inl ⟨rfl,fun _=>hcap⟩) (fun _=>xA) hbe;have hE:cB (c.aI id (.arr k (xs++ys)) (c.pl id) w').w (Imm (c.aI id (.arr k (xs++ys)) (c.pl id) w')) (c.pl id).gb k 0 (xs++ys):=
      CG (w0':=w0) (next:=0) (cap:=(c.pl id).cap) ah.1 ah.2 L.here hge (hinj _ _ _ (.inl rfl)) hk2 (aX.keep hev.keeps _ _ hfl) yy NQ
     have hrel:Rel (c.aI id (.arr k (xs++ys)) (c.pl id) w') w0 n gs { st with heap:=(id,.arr k (xs++ys))::st.heap } a:=by
      refine r.aI hl (fun k' _ hk'=>L.other k' (hk' hcap)) (by rw [L.size];exact Nat.le_refl _) (L.below hgb) (.inl ⟨rfl,fun _=>hcap⟩) (fun _=>xA) hbe (fun _=>?_);exact ⟨by rw [ah.2,vO];exact hroom,fun _=>⟨_,e',by rw [ah.2];exact L.here,by rw [ah.2,mL];exact b2,by rw [ah.2];exact hE⟩⟩
     refine ca (w':=w') (bB ho hb hx ht (by rw [v2,e2];exact hw')) (hK (c.aI id (.arr k (xs++ys)) (c.pl id) w') _ (.ref id 0 0 (xs.length+ys.length)) _ rfl rfl hrel rfl ?_ h);simp only [aA,ah.1];refine ⟨by omega,.inr ⟨(c.pl id).gb,0,(c.pl id).cap,rfl,hroom,?_,fun _=>?_⟩⟩
     ·rw [List.drop_zero,List.take_of_length_le (by omega)];exact hE
     ·rw [ah.2];simp
    ·exact moved w' cap' vs' (by rw [v2,e2];exact hw') hroom hw2 hs' (by rw [<- hold];exact htake)
end
end Uw
namespace Uw
open Go Go.RowKit
variable [Glob]
section
variable {P : Program} {Q : aH -> St -> Prop} {q : V -> St -> Tree} {c : Cx} {w0 : World} {n : Nat} {gs : Fr} {st : St} {a : Act} {K : Act -> World -> Prop} {Qx : Exit -> Act -> World -> Prop} {o : Oper} {xx : aH -> St -> Tree}
theorem EI {vb:Option Bool} {T:Tree} (h:WT P Q (Ew vb T)):vb≠some false/\WT P Q T:=by
 cases vb with
 | none=>exact ⟨by simp,h⟩
 | some b=>
  simp only [Ew,WT] at h
  cases b with
  | true=>exact ⟨by simp,h.1 rfl⟩
  | false=>exact (h.2 rfl).elim
theorem gK {b:Bool} {T:Tree} (h:WT P Q (.test b T .fail)):b=true/\WT P Q T:=by
 simp only [WT] at h
 cases b with
 | true=>exact ⟨rfl,h.1 rfl⟩
 | false=>exact (h.2 rfl).elim
theorem G6 (r:Rel c w0 n gs st a) (hK:bn P Q q c w0 n gs st a o.dst K) {cl:Call} {x1 x2:Operand} {t e:TypeId} {m:Bool} {k bytes:Nat} (ho:o.op = .call cl) (hb:cl.callee = .builtin .append) (hx:cl.args.toList=[x1,x2]) (ht:cl.argTypes.toList=[t,t])
  (he:qt P t e k bytes) {xa:Option Addr} (hxa:a.eval x1 = .slice xa 0 0) {ys:List (List Dat)} (e2:EG c k (a.eval x2) ys) (hy0:ys≠[]) (hd:ys.length * bytes<=70368744177664)
  (h:WT P Q (q (.ref st.next 0 0 ys.length) (ep st (cA m k ys)))):o.wp P a c.w K Qx:=by
 obtain ⟨i,z,zs,hi,hsz,hby,hzero,hzs,hzk⟩:=he.info;have mN:=he.und;have hlen:ys.length<=70368744177664:=Nat.le_trans (Nat.le_mul_of_pos_right _ he.pos) hd
 rcases e2 with ⟨⟨_,e2⟩,rfl⟩|⟨b,o',cp,us,e2,e3,e4,e5,e6,e7,e8⟩
 ·exact absurd rfl hy0
 ·have hpos' : 0<ys.length:=by cases ys<;>simp_all
  have hge:=grownCap_ge c.w ys.length 0 e;obtain ⟨c',pB,pJ,pw,p1,p2⟩:=vN r m (e:=e) (z:=z) (cap:=grownCap c.w ys.length 0 e) e4 e5 e8 hzk rfl hge;refine ca (bB ho hb hx ht ?_) (hK c' _ _ _ pB pJ p1 rfl p2 h)
  cases xa with
  | none=>
   rw [hxa,e2,pw];exact run_append_nil c.w t o.type e i z mN hi hzero ⟨b,o',none⟩ ys.length cp us (by rw [hsz];exact e6) (fun j v hv=>by rw [addr_add];exact e7 j v hv) hpos' (by omega) (by rw [hby];omega)
  | some p=>
   rw [hxa,e2,pw];have:=run_append_grow c.w t o.type e i z mN hi hzero p 0 0 [] (by simp) (by simp) ⟨b,o',none⟩ ys.length cp us (by rw [hsz];exact e6) (fun j v hv=>by rw [addr_add];exact e7 j v hv)
    (by omega) (by omega) (growslice_fits (by omega) (by rw [hby,Nat.zero_add];omega))
   simpa using this
theorem Jk (r:Rel c w0 n gs st a) (hK:bn P Q q c w0 n gs st a o.dst K) {cl:Call} {x1 x2:Operand} {t e:TypeId} {m:Bool} {k bytes:Nat} (ho:o.op = .call cl) (hb:cl.callee = .builtin .append) (hx:cl.args.toList=[x1,x2]) (ht:cl.argTypes.toList=[t,t])
  (he:qt P t e k bytes) {xa:Option Addr} (hxa:a.eval x1 = .slice xa 0 0) (Az : xa=none\/∃b o,xa=some ⟨b,o,none⟩) {ys:List (List Dat)} (e2:EG c k (a.eval x2) ys) (hd:ys.length * bytes<=70368744177664)
  (h:WT P Q (q (.ref st.next 0 0 ys.length) (ep st (cA m k ys)))):o.wp P a c.w K Qx:=by
 obtain ⟨i,z,zs,hi,hsz,hby,hzero,hzs,hzk⟩:=he.info;have mN:=he.und;have hlen:ys.length<=70368744177664:=Nat.le_trans (Nat.le_mul_of_pos_right _ he.pos) hd;have stay:ys=[]->(∃xb xc,a.eval x2 = .slice xb 0 xc)->o.wp P a c.w K Qx:=by
  rintro rfl ⟨xb,xc,hx2⟩;obtain ⟨p1,p2⟩:=KX r m k Az;refine ca (w':=c.w) (bB ho hb hx ht ?_) (hK (c.zero st.next (cA m k [])) _ _ _ rfl rfl p1 rfl p2 h);rw [hxa,hx2];exact eS mN hi (by omega)
 rcases e2 with ⟨⟨_,e2⟩,rfl⟩|⟨b,o',cp,us,e2,e3,e4,e5,e6,e7,e8⟩
 ·exact stay rfl ⟨_,0,e2⟩
 ·by_cases hy0:ys=[]
  ·exact stay hy0 ⟨_,cp,by rw [e2,hy0];rfl⟩
  ·have hpos' : 0<ys.length:=by cases ys<;>simp_all
   have hge:=grownCap_ge c.w ys.length 0 e;obtain ⟨c',pB,pJ,pw,p1,p2⟩:=vN r m (e:=e) (z:=z) (cap:=grownCap c.w ys.length 0 e) e4 e5 e8 hzk rfl hge;refine ca (bB ho hb hx ht ?_) (hK c' _ _ _ pB pJ p1 rfl p2 h)
   rcases Az with rfl|⟨b1,o1,rfl⟩
   ·rw [hxa,e2,pw]
    exact run_append_nil c.w t o.type e i z mN hi hzero ⟨b,o',none⟩ ys.length cp us (by rw [hsz];exact e6) (fun j v hv=>by rw [addr_add];exact e7 j v hv) hpos' (by omega) (by rw [hby];omega)
   ·rw [hxa,e2,pw]
    have:=run_append_grow c.w t o.type e i z mN hi hzero ⟨b1,o1,none⟩ 0 0 [] (by simp) (by simp) ⟨b,o',none⟩ ys.length cp us (by rw [hsz];exact e6) (fun j v hv=>by rw [addr_add];exact e7 j v hv)
     (by omega) (by omega) (growslice_fits (by omega) (by rw [hby,Nat.zero_add];omega))
    simpa using this
theorem K1 (r:Rel c w0 n gs st a) (hK:bn P Q q c w0 n gs st a o.dst K) {cl:Call} {x1 x2:Operand} {y1 y2:Opd} {t e:TypeId} {m:Bool} {k bytes:Nat} (ho:o.op = .call cl) (hb:cl.callee = .builtin .append) (hx:cl.args.toList=[x1,x2]) (ht:cl.argTypes.toList=[t,t])
  (he:qt P t e k bytes) (hc1:al x1=some y1) (hc2:al x2=some y2) (h:WT P Q (step (.app m k bytes y1 y2) st q xx)):o.wp P a c.w K Qx:=by
 obtain ⟨i,z,zs,hi,hsz,hby,hzero,hzs,hzk⟩:=he.info;have mN:=he.und;have hpos:=he.pos;simp only [step] at h
 split at h
 ·rename_i bv yv hv1 hv2
  split at h
  ·rename_i vb ys hys
   replace h:=EI h
   obtain ⟨hvb,h⟩:=h;have e2:=src_ok r (aD r hc2 hv2) hys hvb;have e1:=aD r hc1 hv1
   split at h
   ·-- nil
    simp only [aA,aE] at e1
    replace h:=gK h
    obtain ⟨hd,h⟩:=h;exact Jk r hK ho hb hx ht he e1 (.inl rfl) e2 (of_decide_eq_true hd) h
   ·-- a slice whose capacity is its length
    rename_i k' xs
    split at h
    ·rename_i hkk
     have hkk:=Nat.eq_of_beq_eq_true hkk;subst hkk;simp only [WT] at h;obtain ⟨h1,h2⟩:=h
     cases hxe:xs.isEmpty with
     | true=>
      have h:=h1 hxe;obtain ⟨hd,h⟩:=gK (P:=P) (Q:=Q) (b:=decide (ys.length * bytes<=70368744177664)) (T:=.test ys.isEmpty (q (.d (.slice k xs true)) st) (q (.ref st.next 0 0 ys.length) (ep st (cA m k ys)))) (by simpa only [WT] using h);have hxs:xs=[]:=by simpa using hxe
      subst hxs;have hbase:aA c (.d (.slice k [] true)) (a.eval x1):=e1;simp only [aA,aE] at e1;have e3:∃xa,a.eval x1 = .slice xa 0 0:=by
       rcases e1 with ⟨⟨xa,e1,_⟩,_⟩|⟨bb,oo,cap,f1,f2,f3,f4⟩
       ·exact ⟨xa,e1⟩
       ·have f3:=f3 trivial
        subst f3;exact ⟨_,f1⟩
      obtain ⟨xa,e3⟩:=e3;simp only [WT] at h;obtain ⟨g1,g2⟩:=h;by_cases hy0:ys=[]
      ·subst hy0
       have e4:∃xb xc,a.eval x2 = .slice xb 0 xc:=by
        rcases e2 with ⟨⟨_,e2⟩,_⟩|⟨b,o',cp,us,e2,_⟩
        ·exact ⟨_,0,e2⟩
        ·exact ⟨_,cp,e2⟩
       obtain ⟨xb,xc,e4⟩:=e4;refine aK r hK hbase (g1 rfl) (bB ho hb hx ht ?_);rw [e3,e4];exact eS mN hi (Nat.le_refl _)
      ·exact G6 r hK ho hb hx ht he e3 e2 hy0 (of_decide_eq_true hd) (g2 (by cases ys<;>simp_all))
     | false=>
      have h:=h2 hxe;have hxn:xs≠[]:=by intro hh;subst hh;simp at hxe
      have hbase:aA c (.d (.slice k xs true)) (a.eval x1):=e1;simp only [aA,aE] at e1
      rcases e1 with ⟨_,e1⟩|⟨bb,oo,cap,f1,f2,f3,f4⟩
      ·exact (hxn e1).elim
      have f3:=f3 trivial;obtain ⟨q1,olds,q2,q3,q4,q5⟩:=cB.flat f4;obtain ⟨h,hf⟩:=h
      cases hd:decide ((xs.length+ys.length) * bytes<=70368744177664) with
      | false=>exact (hf hd).elim
      | true=>
       obtain ⟨g1,g2⟩:=h hd;simp only [decide_eq_true_eq] at hd;have hlen:xs.length+ys.length<=70368744177664:=Nat.le_trans (Nat.le_mul_of_pos_right _ hpos) hd
       rcases e2 with ⟨⟨_,e2⟩,rfl⟩|⟨b,o',cp,us,e2,e3,e4,e5,e6,e7,e8⟩
       ·refine aK r hK hbase (g1 rfl) (bB ho hb hx ht ?_)
        rw [f1,e2];exact eS mN hi f2
       ·by_cases hy0:ys=[]
        ·subst hy0
         refine aK r hK hbase (g1 rfl) (bB ho hb hx ht ?_);rw [f1,e2];exact eS mN hi f2
        ·have hne:ys.isEmpty=false:=by cases ys<;>simp_all
         have hpos' : 0<ys.length:=by cases ys<;>simp_all
         have hge:=grownCap_ge c.w (xs.length+ys.length) cap e;obtain ⟨c',pB,pJ,pw,p1,p2⟩:=vN r m (e:=e) (z:=z) (need:=xs.length+ys.length) (cap:=grownCap c.w (xs.length+ys.length) cap e) (k:=k) (xs:=xs++ys) (us:=olds++us)
          (fun x hx=>by rcases List.mem_append.1 hx with hx|hx;exact q1 x hx;exact e4 x hx) (by rw [List.flatten_append];exact q2.append e5)
          (fun v hv=>by rcases List.mem_append.1 hv with hv|hv;exact q5 v hv;exact e8 v hv) hzk (by simp) hge
         rw [List.length_append] at p2;refine ca (bB ho hb hx ht ?_) (hK c' _ _ _ pB pJ p1 rfl p2 (g2 hne));rw [f1,e2,pw];have:=run_append_grow c.w t o.type e i z mN hi hzero ⟨bb,oo,none⟩ xs.length cap olds (by rw [hsz];exact q3) (fun j v hv=>by rw [addr_add];exact q4 j v hv) ⟨b,o',none⟩ ys.length cp us (by rw [hsz];exact e6) (fun j v hv=>by rw [addr_add];exact e7 j v hv)
          (by omega) (by omega) (growslice_fits (by omega) (by rw [hby];omega))
         rw [this];simp
    ·exact h.elim
   ·rename_i id ver len
    split at h
    ·rename_i k' xs hl
     split at h
     ·rename_i hkk
      have hkk:=Nat.eq_of_beq_eq_true hkk;subst hkk;obtain ⟨hd,g⟩:=gK h;simp only [Bool.and_eq_true,decide_eq_true_eq] at hd;exact NR r hK ho hb hx ht he hl e1 e2 hd.1 hd.2 g
     ·exact h.elim
    ·rename_i k' dE xs hl
     split at h
     ·rename_i hkk
      have h1:=Nat.eq_of_beq_eq_true hkk;subst h1
      replace h:=gK h
      obtain ⟨hv,h⟩:=h;have h2:=Nat.eq_of_beq_eq_true hv;subst h2;obtain ⟨hd,g⟩:=gK h;simp only [decide_eq_true_eq] at hd;exact Rt r hK ho hb hx ht he hl e1 e2 hd g
     ·exact h.elim
    ·exact h.elim
   ·exact h.elim
  ·exact h.elim
 ·exact h.elim
theorem df (r:Rel c w0 n gs st a) {x:Option Operand} {y:Option Opd} {d i:Int} (hx:(match x with|none=>some none|some z=>(al z).map some)=some y) (h:cu st d y=some i) :
  (x=none/\y=none/\i=d)\/∃z k,x=some z/\a.eval z = .int k i:=by
 cases x with
 | none=>
  simp at hx;subst hx;simp [cu] at h;exact .inl ⟨rfl,rfl,h.symm⟩
 | some z=>
  simp only [Option.map_eq_some_iff] at hx;obtain ⟨y',hy',rfl⟩:=hx;simp only [cu] at h
  split at h
  ·rename_i k m hv
   simp at h;subst h;have e:=aD r hy' hv;simp only [aA,aE] at e;exact .inr ⟨z,k,rfl,e⟩
  ·simp at h
theorem tB (x:Option Operand):jE x=(match x with|none=>some none|some z=>(al z).map some):=by cases x<;>rfl
theorem iZ {isS:Bool} {len cap:Nat} {lo hi:Option Operand} {l h:Int} {w:World} (hlo:(lo=none/\l=0)\/∃z k,lo=some z/\a.eval z = .int k l) (hhi:(hi=none/\h=len)\/∃z k,hi=some z/\a.eval z = .int k h)
  (h0:0<=l) (h1:l<=h) (h2:h<=cap):(Instr.sliceBounds isS len cap (lo.map a.eval) (hi.map a.eval) none).run P w = .ok (l.toNat,h.toNat,cap) w:=by
 have hh0:0<=h:=by omega
 unfold Instr.sliceBounds
 rcases hlo with ⟨rfl,rfl⟩|⟨z,k,rfl,hz⟩
 ·rcases hhi with ⟨rfl,rfl⟩|⟨z',k',rfl,hz'⟩
  ·simp
  ·simp [hz',Instr.sliceBound,asIntOf,hh0,h2]
 ·rcases hhi with ⟨rfl,rfl⟩|⟨z',k',rfl,hz'⟩
  ·simp [hz,Instr.sliceBound,asIntOf,h0,h1]
  ·have:(h.toNat:Int)=h:=by omega
   simp [hz,hz',Instr.sliceBound,asIntOf,h0,h1,hh0,h2,this]
theorem K2 (r:Rel c w0 n gs st a) (hK:bn P Q q c w0 n gs st a o.dst K) {t:TypeId} {x:Operand} {lo hi:Option Operand} {y:Opd} {lo' hi' : Option Opd} (ho:o.op = .slice t x lo hi none) (hu:P.underlying t=some .string)
  (hc:al x=some y) (hl:jE lo=some lo') (hh:jE hi=some hi') (h:WT P Q (step (.qp y lo' hi') st q xx)):o.wp P a c.w K Qx:=by
 simp only [step] at h
 split at h
 ·rename_i s hv
  have e1:=aD r hc hv;simp only [aA,aE] at e1
  split at h
  ·rename_i l u hl' hu'
   simp only [WT] at h
   cases hd:(decide (0<=l)&&decide (l<=u)&&decide (u<=(s.length:Int))) with
   | false=>exact (h.2 hd).elim
   | true=>
    have g:=h.1 hd;simp only [Bool.and_eq_true,decide_eq_true_eq] at hd;rw [tB] at hl hh;have r1:=df r hl hl';have r2:=df r hh hu';have hb:=iZ (P:=P) (isS:=false) (w:=c.w) (len:=s.length) (cap:=s.length) (a:=a) (r1.imp (fun h=>⟨h.1,h.2.2⟩) id) (r2.imp (fun h=>⟨h.1,h.2.2⟩) id) hd.1.1 hd.1.2 hd.2;refine aK r hK (gv:=.string ⟨((s.take u.toNat).drop l.toNat).toArray⟩) (by simp [aA,aE]) g ?_;have hsz:(⟨s.toArray⟩:ByteArray).size=s.length:=by simp [ByteArray.size]
    have hex:(⟨s.toArray⟩:ByteArray).extract l.toNat u.toNat=⟨((s.take u.toNat).drop l.toNat).toArray⟩:=by
     apply ByteArray.ext;simp [ByteArray.data_extract,List.drop_take]
    simp only [execOp,ho];have:(Instr.sliceAt t (a.eval x) (lo.map a.eval) (hi.map a.eval) (Option.map a.eval none)).run P c.w = .ok (.string ⟨((s.take u.toNat).drop l.toNat).toArray⟩) c.w:=by
     simp only [Instr.sliceAt,Instr.slice,e1,Option.map_none];rw [run_bind_ok (bC hu)];simp only [];rw [run_bind_ok (bC hu)];simp [hsz,hb,hex]
    rw [run_bind_ok this];rfl
  ·exact h.elim
 ·exact h.elim
end
end Uw
namespace Uw
open Go Go.RowKit
variable [Glob]
section
variable {P : Program} {Q : aH -> St -> Prop} {q : V -> St -> Tree} {c : Cx} {w0 : World} {n : Nat} {gs : Fr} {st : St} {a : Act} {K : Act -> World -> Prop} {Qx : Exit -> Act -> World -> Prop} {o : Oper} {xx : aH -> St -> Tree}
theorem lw {t e:TypeId} {x:Operand} {lo hi:Option Operand} {k len cap b o' : Nat} {l u:Int} {w:World} (ho:o.op = .slice t x lo hi none) (hu:P.underlying t=some (.slice e)) (hk:sizeT P e=some k) (hx:a.eval x = .slice (some ⟨b,o',none⟩) len cap)
  (hlo:(lo=none/\l=0)\/∃z k,lo=some z/\a.eval z = .int k l) (hhi:(hi=none/\u=len)\/∃z k,hi=some z/\a.eval z = .int k u) (h0:0<=l) (h1:l<=u) (h2:u<=cap) :
  (execOp a.eval o).run P w = .ok (.value (.slice (some (if cap=l.toNat then ⟨b,o',none⟩ else ⟨b,o' + l.toNat * k,none⟩)) (u.toNat - l.toNat) (cap - l.toNat))) w:=by
 have hb:=iZ (P:=P) (isS:=true) (w:=w) (len:=len) (cap:=cap) (a:=a) hlo hhi h0 h1 h2;simp only [execOp,ho];have:(Instr.sliceAt t (a.eval x) (lo.map a.eval) (hi.map a.eval) (Option.map a.eval none)).run P w = .ok (.slice (some (if cap=l.toNat then ⟨b,o',none⟩ else ⟨b,o' + l.toNat * k,none⟩)) (u.toNat - l.toNat) (cap - l.toNat)) w:=by
  simp only [Instr.sliceAt,Instr.slice,hx,Option.map_none];rw [run_bind_ok (bC hu)];simp only [];rw [run_bind_ok (bC hu)];simp only [];rw [run_bind_ok hb];simp only [];rw [run_bind_ok (eH hk)];by_cases hc:cap=l.toNat
  ·simp [hc]
  ·simp [hc,addr_add]
 rw [run_bind_ok this];rfl
theorem mO {t e:TypeId} {x hi mx:Operand} {lo:Option Operand} {k len cap:Nat} {ad:Option Addr} {l u:Int} {k1 k2:IntKind} {w:World} (ho:o.op = .slice t x lo (some hi) (some mx)) (hu:P.underlying t=some (.slice e)) (hk:sizeT P e=some k) (hx:a.eval x = .slice ad len cap)
  (hlo:(lo=none/\l=0)\/∃z k,lo=some z/\a.eval z = .int k l) (hhi:a.eval hi = .int k1 u) (hmx:a.eval mx = .int k2 u) (h0:0<=l) (h1:l<=u) (h2:u<=cap) :
  (execOp a.eval o).run P w = .ok (.value (.slice (if u.toNat=l.toNat then ad else ad.map (·.add (l.toNat * k))) (u.toNat - l.toNat) (u.toNat - l.toNat))) w:=by
 have hu0:0<=u:=by omega
 have hut:(u.toNat:Int)=u:=by omega
 have hb:(Instr.sliceBounds true len cap (lo.map a.eval) (some (a.eval hi)) (some (a.eval mx))).run P w = .ok (l.toNat,u.toNat,u.toNat) w:=by
  unfold Instr.sliceBounds
  rcases hlo with ⟨rfl,rfl⟩|⟨z,k,rfl,hz⟩
  ·simp [hhi,hmx,Instr.sliceBound,asIntOf,hu0,h2,hut]
  ·simp [hz,hhi,hmx,Instr.sliceBound,asIntOf,h0,h1,hu0,h2,hut]
 simp only [execOp,ho];have:(Instr.sliceAt t (a.eval x) (lo.map a.eval) ((some hi).map a.eval) ((some mx).map a.eval)).run P w = .ok (.slice (if u.toNat=l.toNat then ad else ad.map (·.add (l.toNat * k))) (u.toNat - l.toNat) (u.toNat - l.toNat)) w:=by
  simp only [Instr.sliceAt,Instr.slice,hx,Option.map_some];rw [run_bind_ok (bC hu)];simp only [];rw [run_bind_ok (bC hu)];simp only [];rw [run_bind_ok hb];simp only [];rw [run_bind_ok (eH hk)];rfl
 rw [run_bind_ok this];rfl
theorem ox {t e:TypeId} {x:Operand} {lo hi:Option Operand} {k:Nat} {w:World} {xo:Option Addr} (ho:o.op = .slice t x lo hi none) (hu:P.underlying t=some (.slice e)) (hk:sizeT P e=some k) (hx:a.eval x = .slice xo 0 0)
  (hlo:(lo=none/\(0:Int)=0)\/∃z k,lo=some z/\a.eval z = .int k 0) (hhi:(hi=none/\(0:Int)=((0:Nat):Int))\/∃z k,hi=some z/\a.eval z = .int k 0):(execOp a.eval o).run P w = .ok (.value (.slice xo 0 0)) w:=by
 have hb:=iZ (P:=P) (isS:=true) (w:=w) (len:=0) (cap:=0) (a:=a) hlo hhi (by omega) (by omega) (by omega);simp only [execOp,ho];have:(Instr.sliceAt t (a.eval x) (lo.map a.eval) (hi.map a.eval) (Option.map a.eval none)).run P w = .ok (.slice xo 0 0) w:=by
  simp only [Instr.sliceAt,Instr.slice,hx,Option.map_none];rw [run_bind_ok (bC hu)];simp only [];rw [run_bind_ok (bC hu)];simp only [];rw [run_bind_ok hb];simp only [];rw [run_bind_ok (eH hk)]
  cases xo<;>simp
 rw [run_bind_ok this];rfl
theorem cB.window {w:World} {J:Nat->Nat->Prop} {b k:Nat}:∀{xs:List (List Dat)} {o:Nat},cB w J b k o xs->∀m,m<=xs.length->cB w J b k (o+m * k) (xs.drop m)
 | xs,o,h,0,_=>by simpa using h
 | [],o,h,m+1,hm=>by simp [cB]
 | x::xs,o,h,m+1,hm=>by
  obtain ⟨h1,h2,h3⟩:=h;have:=cB.window h3 m (by simpa using hm);rw [show o+k+m * k=o+(m+1) * k by rw [Nat.add_mul];omega] at this;simpa using this
theorem cB.take {w:World} {J:Nat->Nat->Prop} {b k:Nat}:∀{xs:List (List Dat)} {o:Nat},cB w J b k o xs->∀m,cB w J b k o (xs.take m)
 | xs,o,h,0=>by simp [cB]
 | [],o,h,m+1=>by simp [cB]
 | x::xs,o,h,m+1=>by
  obtain ⟨h1,h2,h3⟩:=h;exact ⟨h1,h2,cB.take h3 m⟩
theorem Ru (r:Rel c w0 n gs st a) (hK:bn P Q q c w0 n gs st a o.dst K) {t e:TypeId} {k:Nat} {x hi mx:Operand} {lo:Option Operand} {y hi' mx' : Opd} {lo' : Option Opd} (ho:o.op = .slice t x lo (some hi) (some mx)) (hu:P.underlying t=some (.slice e)) (hk:sizeT P e=some k)
  (hc:al x=some y) (hl:jE lo=some lo') (hh:al hi=some hi') (hm:al mx=some mx') (h:WT P Q (step (.sl3 k y lo' hi' mx') st q xx)):o.wp P a c.w K Qx:=by
 rw [tB] at hl;have int:∀{z:Operand} {z' : Opd} {i:Int},al z=some z'->cu st 0 (some z')=some i->∃kk,a.eval z = .int kk i:=by
  intro z z' i hz hi
  rcases df r (x:=some z) (y:=some z') (d:=0) (by simp [hz]) hi with ⟨h,_⟩|⟨z1,kk,h1,h2⟩
  ·cases h
  ·injection h1 with h1;subst h1;exact ⟨kk,h2⟩
 simp only [step] at h
 split at h
 ·rename_i k' xs z hv
  have e0:=aD r hc hv;simp only [aA,aE] at e0
  split at h
  ·rename_i l u m hkk hl' hu' hm'
   have hkk:=Nat.eq_of_beq_eq_true hkk;subst hkk;simp only [WT] at h;obtain ⟨ht,hf⟩:=h
   cases hd:(decide (0<=l)&&decide (l<u)&&decide (u=m)&&decide (m<=(xs.length:Int))) with
   | true=>
     have g:=ht hd;simp only [Bool.and_eq_true,decide_eq_true_eq] at hd;obtain ⟨⟨⟨d1,d2⟩,d3⟩,d4⟩:=hd;subst d3;have r1:=(df r hl hl').imp (fun h=>(⟨h.1,h.2.2⟩:lo=none/\l=0)) (fun h=>h);obtain ⟨k1,r2⟩:=int hh hu';obtain ⟨k2,r3⟩:=int hm hm'
     rcases e0 with ⟨⟨x9,e0,_⟩,rfl⟩|⟨b,o',cap,e1,e2,e3,e4⟩
     ·simp only [List.length_nil] at d4;omega
     refine aK r hK ?_ g (mO ho hu hk e1 r1 r2 r3 d1 (by omega) (by omega));have hlen:((xs.take u.toNat).drop l.toNat).length=u.toNat - l.toNat:=by simp;omega
     have hE:cB c.w (Imm c) b k (o' + l.toNat * k) ((xs.take u.toNat).drop l.toNat):=(e4.take u.toNat).window l.toNat (by simp;omega);rw [if_neg (by omega)];exact .inr ⟨b,o' + l.toNat * k,u.toNat - l.toNat,by rw [hlen];simp [addr_add],by rw [hlen];omega,fun _=>by rw [hlen],hE⟩
   | false=>
     obtain ⟨hd2,g⟩:=gK (P:=P) (Q:=Q) (b:=decide (l=0)&&decide (u=0)&&decide (m=0)) (T:=q (.d (.slice k [] true)) st) (by simpa only [WT] using hf hd);simp only [Bool.and_eq_true,decide_eq_true_eq] at hd2;obtain ⟨⟨rfl,rfl⟩,rfl⟩:=hd2;have r1:=(df r hl hl').imp (fun h=>(⟨h.1,h.2.2⟩:lo=none/\(0:Int)=0)) (fun h=>h);obtain ⟨k1,r2⟩:=int hh hu';obtain ⟨k2,r3⟩:=int hm hm'
     rcases e0 with ⟨⟨x9,e0,_⟩,_⟩|⟨b,o',cap,e1,e2,e3,e4⟩
     ·exact aK r hK (gv:=.slice x9 0 0) (by simp only [aA,aE];exact .inl ⟨⟨x9,rfl,fun _=>trivial⟩,trivial⟩) g (mO ho hu hk e0 r1 r2 r3 (by omega) (by omega) (by omega))
     ·exact aK r hK (gv:=.slice (some ⟨b,o',none⟩) 0 0) (by simp only [aA,aE];exact .inl ⟨⟨_,rfl,fun _=>trivial⟩,trivial⟩) g (mO ho hu hk e1 r1 r2 r3 (by omega) (by omega) (by omega))
  ·exact h.elim
 ·rename_i id ver off len hv
  have e1:=aD r hc hv;simp only [aA] at e1;rw [r.heap] at e1
  split at h
  ·rename_i k' xs l u m hlk hl' hu' hm'
   rw [hlk] at e1
   split at h
   ·rename_i hkk
    have hkk:=Nat.eq_of_beq_eq_true hkk;subst hkk;obtain ⟨f1,e1⟩:=e1;obtain ⟨hd,g⟩:=gK h;simp only [Bool.and_eq_true,decide_eq_true_eq] at hd;obtain ⟨⟨⟨d1,d2⟩,d3⟩,d4⟩:=hd;subst d3;have r1:=(df r hl hl').imp (fun h=>(⟨h.1,h.2.2⟩:lo=none/\l=0)) (fun h=>h);obtain ⟨k1,r2⟩:=int hh hu';obtain ⟨k2,r3⟩:=int hm hm'
    rcases e1 with ⟨f2,f3,f4⟩|⟨b,o',cap,f2,f3,f4,f5⟩
    ·subst f3;omega
    refine aK r hK ?_ g (mO ho hu hk f2 r1 r2 r3 d1 (by omega) (by omega));have hlen:((((xs.drop off).take len).take u.toNat).drop l.toNat).length=u.toNat - l.toNat:=by simp;omega
    have hE:cB c.w (Imm c) b k (o' + l.toNat * k) ((((xs.drop off).take len).take u.toNat).drop l.toNat):=(f4.take u.toNat).window l.toNat (by simp;omega);rw [if_neg (by omega)];exact .inr ⟨b,o' + l.toNat * k,u.toNat - l.toNat,by rw [hlen];simp [addr_add],by rw [hlen];omega,fun _=>by rw [hlen],hE⟩
   ·exact h.elim
  ·exact h.elim
 ·rename_i hv
  have e0:=aD r hc hv;simp only [aA,aE] at e0
  split at h
  ·rename_i l u m hl' hu' hm'
   obtain ⟨hd,g⟩:=gK h;simp only [Bool.and_eq_true,decide_eq_true_eq] at hd;obtain ⟨⟨rfl,rfl⟩,rfl⟩:=hd;have r1:=(df r hl hl').imp (fun h=>(⟨h.1,h.2.2⟩:lo=none/\(0:Int)=0)) (fun h=>h);obtain ⟨k1,r2⟩:=int hh hu';obtain ⟨k2,r3⟩:=int hm hm';exact aK r hK (gv:=.slice none 0 0) (by simp [aA,aE]) g (mO ho hu hk e0 r1 r2 r3 (by omega) (by omega) (by omega))
  ·exact h.elim
 ·exact h.elim
theorem TV (r:Rel c w0 n gs st a) (hK:bn P Q q c w0 n gs st a o.dst K) {t e:TypeId} {k:Nat} {x:Operand} {lo hi:Option Operand} {y:Opd} {lo' hi' : Option Opd} (ho:o.op = .slice t x lo hi none) (hu:P.underlying t=some (.slice e)) (hk:sizeT P e=some k)
  (hc:al x=some y) (hl:jE lo=some lo') (hh:jE hi=some hi') (h:WT P Q (step (.sl k y lo' hi') st q xx)):o.wp P a c.w K Qx:=by
 rw [tB] at hl hh;simp only [step] at h
 split at h
 ·rename_i k' xs z hv
  have e0:=aD r hc hv;simp only [aA,aE] at e0
  split at h
  ·rename_i l u hkk hl' hu'
   have hkk:=Nat.eq_of_beq_eq_true hkk;subst hkk;simp only [WT] at h
   cases hd:(decide (0<=l)&&decide (l<=u)&&decide (u<=(xs.length:Int))) with
   | false=>exact (h.2 hd).elim
   | true=>
    have g:=h.1 hd;simp only [Bool.and_eq_true,decide_eq_true_eq] at hd;have r1:=(df r hl hl').imp (fun h=>(⟨h.1,h.2.2⟩:lo=none/\l=0)) (fun h=>h);have r2:=(df r hh hu').imp (fun h=>(⟨h.1,h.2.2⟩:hi=none/\u=xs.length)) (fun h=>h)
    rcases e0 with ⟨⟨x9,e0,_⟩,rfl⟩|⟨b,o',cap,e1,e2,e3,e4⟩
    ·simp only [List.length_nil] at hd r2
     have hl0:l=0:=by omega
     have hu0:u=0:=by omega
     subst hl0 hu0;refine aK r hK (gv:=.slice x9 0 0) ?_ g (ox ho hu hk e0 r1 r2);exact .inl ⟨⟨_,rfl,by simp⟩,by simp⟩
    refine aK r hK ?_ g (lw ho hu hk e1 r1 r2 hd.1.1 hd.1.2 (by omega));have hlen:((xs.take u.toNat).drop l.toNat).length=u.toNat - l.toNat:=by simp;omega
    have hE:cB c.w (Imm c) b k (o' + l.toNat * k) ((xs.take u.toNat).drop l.toNat):=(e4.take u.toNat).window l.toNat (by simp;omega);by_cases hcap:cap=l.toNat
    ·rw [if_pos hcap]
     refine .inr ⟨b,o',cap - l.toNat,by rw [hlen],by rw [hlen];omega,by simp,?_⟩;have:(xs.take u.toNat).drop l.toNat=[]:=List.eq_nil_of_length_eq_zero (by omega);rw [this];trivial
    ·rw [if_neg hcap]
     exact .inr ⟨b,o' + l.toNat * k,cap - l.toNat,by rw [hlen],by rw [hlen];omega,by simp,hE⟩
  ·exact h.elim
 ·rename_i id ver off len hv
  have e1:=aD r hc hv;simp only [aA] at e1;rw [r.heap] at e1
  split at h
  ·rename_i k' xs l u hlk hl' hu'
   rw [hlk] at e1
   split at h
   ·rename_i hkk
    have hkk:=Nat.eq_of_beq_eq_true hkk;subst hkk;obtain ⟨f1,e1⟩:=e1;simp only [WT] at h
    cases hd:(decide (0<=l)&&decide (l<=u)&&decide (u<=(len:Int))) with
    | false=>exact (h.2 hd).elim
    | true=>
     have g:=h.1 hd;simp only [Bool.and_eq_true,decide_eq_true_eq] at hd;have r1:=(df r hl hl').imp (fun h=>(⟨h.1,h.2.2⟩:lo=none/\l=0)) (fun h=>h);have r2:=(df r hh hu').imp (fun h=>(⟨h.1,h.2.2⟩:hi=none/\u=len)) (fun h=>h);have Jl : look c.heap id=some (.arr k xs):=by rw [r.heap];exact hlk
     rcases e1 with ⟨f2,f3,f4⟩|⟨b,o',cap,f2,f3,f4,f5⟩
     ·subst f3
      have hl0:l=0:=by omega
      have hu0:u=0:=by omega
      subst hl0 hu0;refine aK r hK (gv:=.slice none 0 0) ?_ g (ox ho hu hk f2 r1 r2);simp only [aA,Jl];exact ⟨by simp;omega,.inl ⟨rfl,by simp,by simpa using f4⟩⟩
     refine aK r hK ?_ g (lw ho hu hk f2 r1 r2 hd.1.1 hd.1.2 (by omega));simp only [aA,Jl];have hul:(u - l).toNat=u.toNat - l.toNat:=by omega
     have hwin:(xs.drop (off+l.toNat)).take (u - l).toNat=(((xs.drop off).take len).take u.toNat).drop l.toNat:=by
      rw [List.drop_take,List.drop_take,List.drop_drop,List.take_take]
      congr 1
      omega
     refine ⟨by omega,?_⟩;have hE:cB c.w (Imm c) b k (o' + l.toNat * k) ((((xs.drop off).take len).take u.toNat).drop l.toNat):=(f4.take u.toNat).window l.toNat (by simp;omega);by_cases hcap:cap=l.toNat
     ·rw [if_pos hcap]
      refine .inr ⟨b,o',cap - l.toNat,by rw [hul],by omega,?_,?_⟩
      ·rw [hwin]
       have:(((xs.drop off).take len).take u.toNat).drop l.toNat=[]:=List.eq_nil_of_length_eq_zero (by simp;omega);rw [this];trivial
      ·intro hend
       obtain ⟨f6,f7⟩:=f5 (by omega);refine ⟨by omega,fun hlt=>by omega⟩
     ·rw [if_neg hcap]
      refine .inr ⟨b,o' + l.toNat * k,cap - l.toNat,by rw [hul],by omega,by rw [hwin];exact hE,?_⟩;intro hend;obtain ⟨f6,f7⟩:=f5 (by omega);refine ⟨by omega,fun hlt=>?_⟩;obtain ⟨f8,f9⟩:=f7 (by omega);exact ⟨f8,by rw [f9,Nat.add_mul]⟩
   ·exact h.elim
  ·rename_i k' dE xs l u hlk hl' hu'
   rw [hlk] at e1
   split at h
   ·rename_i hkk
    have h1:=Nat.eq_of_beq_eq_true hkk;subst h1
    replace h:=gK h
    obtain ⟨hv2,h⟩:=h;have h2:=Nat.eq_of_beq_eq_true hv2;subst h2;obtain ⟨f0,_,f⟩:=e1;obtain ⟨f1,f2⟩:=f rfl;have Jl : look c.heap id=some (.mt k ver xs):=by rw [r.heap];exact hlk
    obtain ⟨b3,b4,bb⟩:=r.hrel.blk id _ Jl;simp only [WT] at h
    cases hd:(decide (0<=l)&&decide (l<=u)&&decide (u<=(len:Int))) with
    | false=>exact (h.2 hd).elim
    | true=>
     have g:=h.1 hd;simp only [Bool.and_eq_true,decide_eq_true_eq] at hd;have r1:=(df r hl hl').imp (fun h=>(⟨h.1,h.2.2⟩:lo=none/\l=0)) (fun h=>h);have r2:=(df r hh hu').imp (fun h=>(⟨h.1,h.2.2⟩:hi=none/\u=len)) (fun h=>h)
     rcases f2 with ⟨f2,f3,f4,f5⟩|⟨b,o',f2,f3⟩
     ·subst f3 f4
      have hl0:l=0:=by omega
      have hu0:u=0:=by omega
      subst hl0 hu0;refine aK r hK (gv:=.slice none 0 0) ?_ g (ox ho hu hk f2 r1 r2);simp only [aA,Jl];exact ⟨Nat.le_refl _,⟨_,_,_,rfl⟩,fun _=>⟨by simp,.inl ⟨rfl,rfl,rfl,f5⟩⟩⟩
     refine aK r hK ?_ g (lw ho hu hk f2 r1 r2 hd.1.1 hd.1.2 (by omega));simp only [aA,Jl];have hul:(u - l).toNat=u.toNat - l.toNat:=by omega
     refine ⟨Nat.le_refl _,⟨_,_,_,rfl⟩,fun _=>⟨by omega,?_⟩⟩;by_cases hcap:(c.pl id).cap - off=l.toNat
     ·rw [if_pos hcap]
      exact .inr ⟨b,o',by rw [hul,Nat.sub_sub],fun hlt=>by omega⟩
     ·rw [if_neg hcap]
      refine .inr ⟨b,o' + l.toNat * k,by rw [hul,Nat.sub_sub],fun hlt=>?_⟩;obtain ⟨f8,f9⟩:=f3 (by omega);exact ⟨f8,by rw [f9,Nat.add_mul]⟩
   ·exact h.elim
  ·exact h.elim
 ·rename_i hv
  have e1:=aD r hc hv;simp only [aA,aE] at e1
  split at h
  ·rename_i l u hl' hu'
   simp only [WT] at h
   cases hd:(decide (l=0)&&decide (u=0)) with
   | false=>exact (h.2 hd).elim
   | true=>
    have g:=h.1 hd;simp only [Bool.and_eq_true,decide_eq_true_eq] at hd;obtain ⟨rfl,rfl⟩:=hd;have r1:=(df r hl hl').imp (fun h=>(⟨h.1,h.2.2⟩:lo=none/\(0:Int)=0)) id;have r2:=(df r hh hu').imp (fun h=>(⟨h.1,h.2.2⟩:hi=none/\(0:Int)=((0:Nat):Int))) id;refine aK r hK (v:=.d .nil) (gv:=.slice none 0 0) (by simp [aA,aE]) g ?_;have hb:=iZ (P:=P) (isS:=true) (w:=c.w) (len:=0) (cap:=0) (a:=a) r1 r2 (by omega) (by omega) (by omega);simp only [execOp,ho];have:(Instr.sliceAt t (a.eval x) (lo.map a.eval) (hi.map a.eval) (Option.map a.eval none)).run P c.w = .ok (.slice none 0 0) c.w:=by
     simp only [Instr.sliceAt,Instr.slice,e1,Option.map_none];rw [run_bind_ok (bC hu)];simp only [];rw [run_bind_ok (bC hu)];simp only [];rw [run_bind_ok hb];simp only [];rw [run_bind_ok (eH hk)];simp
    rw [run_bind_ok this];rfl
  ·exact h.elim
 ·exact h.elim
theorem yz {α:Type} (cs ds:List α) (h:ds.length=cs.length):setAt cs 0 ds=ds:=by
 apply List.ext_getElem?;intro j;rw [jt];by_cases hj:j<ds.length
 ·rw [if_pos (by omega)];simp
 ·rw [if_neg (by omega),List.getElem?_eq_none (by omega),List.getElem?_eq_none (by omega)]
theorem Ik (r:Rel c w0 n gs st a) {k:Nat}:∀(ps:List (Nat×Operand)) (qs:List (Nat×Opd)) (xs xs' : List (List Dat)) (vs:Array Value),(∀p∈ps.zip qs,p.1.1=p.2.1/\al p.1.2=some p.2.2)->ps.length=qs.length->
  (∀x∈xs,x.length=k)->aX c.w (Imm c) xs.flatten vs.toList->(∀v∈vs.toList,one v=true)->ij st k xs qs=some xs'->
  ∃vs',Instr.fill (fun i=>some (i * k,k)) vs (ps.map fun (i,x)=>(i,a.eval x))=some vs'/\(∀x∈xs',x.length=k)/\xs'.length=xs.length/\aX c.w (Imm c) xs'.flatten vs'.toList/\∀v∈vs'.toList,one v=true:=by
 intro ps
 induction ps with
 | nil=>
  intro qs xs xs' vs _ hl h1 h2 h3 h;have:qs=[]:=List.eq_nil_of_length_eq_zero (by simpa using hl.symm);subst this;simp [ij] at h;subst h;exact ⟨vs,rfl,h1,rfl,h2,h3⟩
 | cons p ps ih=>
  intro qs xs xs' vs hz hl h1 h2 h3 h
  cases qs with
  | nil=>simp at hl
  | cons q0 qs=>
   obtain ⟨i,x⟩:=p;obtain ⟨i',y⟩:=q0;have hz0:=hz ((i,x),(i',y)) (by simp);obtain ⟨hii,hcy⟩:=hz0;simp only at hii hcy;subst hii;simp only [ij] at h
   split at h
   ·rename_i v hv
    split at h
    ·rename_i ds hds
     split at h
     ·rename_i hb
      rw [Bool.and_eq_true,Bool.and_eq_true] at hb;have hb1:=Nat.eq_of_beq_eq_true hb.1.1;have hb2:i<xs.length:=by simpa using hb.1.2
      have e4:=aD r hcy hv;have e5:=mA e4 (wK hv);rw [<- r.heap] at hds;have e6:=nM hds e5;have hcs:xs[i]? = some xs[i]:=List.getElem?_eq_getElem hb2;have hcl:xs[i].length=k:=h1 _ (List.getElem_mem hb2);have hset:setAt xs[i] 0 ds=ds:=yz _ _ (by omega);have hdl:(a.eval x).cells.size=k:=by have:=e6.length;simp at this;omega
      have hvl:vs.size=xs.length * k:=by have:=h2.length;rw [fE h1] at this;simpa using this
      have hik:(i+1) * k<=xs.length * k:=Nat.mul_le_mul_right _ (by omega);have hik' : i * k+k=(i+1) * k:=by rw [Nat.add_mul];omega
      have hfs:=qW h1 (cc:=0) (ds:=ds) hcs (by omega);rw [hset,Nat.add_zero] at hfs;obtain ⟨vs',g1,g2,g3,g4,g5⟩:=ih qs (xs.set i ds) xs' (gJ vs (i * k) (a.eval x).cells.toList) (fun p hp=>hz p (by simp [hp])) (by simpa using hl)
       (fun z hz=>by rcases List.mem_or_eq_of_mem_set hz with hz|hz;exact h1 z hz;rw [hz];exact hb1)
       (by rw [hfs,fK];exact aX.setAt h2 e6 _)
       (fun u hu=>by
        rw [fK] at hu
        rcases oZ hu with hu|hu
        ·exact h3 u hu
        ·obtain ⟨j,hj⟩:=List.getElem?_of_mem hu
         obtain ⟨z,hz,hzr⟩:=e5.get' j u hj;exact x5 hzr (List.all_eq_true.1 hb.2 z (List.mem_of_getElem? hz))) h
      refine ⟨vs',?_,g2,by rw [g3];simp,g4,g5⟩;simp only [List.map_cons,Instr.fill];rw [if_neg (by simp;omega)];have e:=vM (i * k) (a.eval x).cells.toList 0 vs;simp only [Nat.add_zero] at e;rw [<- Array.foldl_toList,Array.toList_zipIdx,e];exact g1
     ·simp at h
    ·simp at h
   ·simp at h
theorem Il (r:Rel c w0 n gs st a) {k:Nat} {xs:List (List Dat)} {vs:Array Value} {e:TypeId} (h1:∀x∈xs,x.length=k) (h2:aX c.w (Imm c) xs.flatten vs.toList) (h3:∀v∈vs.toList,one v=true) :
  Rel { c with w:=c.w.alloc (.cells vs e) } w0 n gs st a/\aA { c with w:=c.w.alloc (.cells vs e) } (.d (.slice k xs true)) (.slice (some ⟨c.w.heap.size,0,none⟩) xs.length xs.length):=by
 have hbel:Below c.w.heap.size c.w (c.w.alloc (.cells vs e)):=(Below.refl _ _).alloc (Nat.le_refl _) _;have hev:=Evo.grow r.hrel hbel;refine ⟨r.grow hbel,.inr ⟨c.w.heap.size,0,xs.length,rfl,Nat.le_refl _,fun _=>rfl,?_⟩⟩;refine cB.of_flat h1 (aX.keep hev.keeps _ _ h2) ?_;intro j v hv;refine ⟨?_,?_,h3 v (List.mem_of_getElem? hv)⟩
 ·have hblk:(c.w.alloc (.cells vs e)).heap[c.w.heap.size]? = some (.cells vs e (0,0)):=by
   show (c.w.heap.push (.cells vs e))[c.w.heap.size]? = _;simp
  rw [bY hblk];simpa using hv
 ·refine .inr ⟨r.hrel.qV (Nat.le_refl _),?_,?_⟩
  ·show c.w.heap.size<(c.w.heap.push (.cells vs e)).size
   simp
  ·intro id blk hl hph hg
   exfalso;have:=r.hrel.jI hl hph;simp only at hg;omega
end
end Uw
namespace Uw
open Go Go.RowKit
variable [Glob]
theorem Jm {v:Value} {d:Dat} (h:yl v=some d):one v=true:=by
 cases v<;>first|rfl|(simp [yl] at h)
theorem pN:∀{vs:List Value} {ds:List Dat},jD vs=some ds->∀v∈vs,one v=true
 | [],ds,h,v,hv=>by simp at hv
 | u::vs,ds,h,v,hv=>by
  unfold jD at h
  split at h
  ·rename_i x l hx hl
   simp at hv
   rcases hv with rfl|hv
   ·exact Jm hx
   ·exact pN hl v hv
  ·simp at h
theorem pO:∀{vs:List Value} {ds:List Dat},jD vs=some ds->ds.length=vs.length
 | [],ds,h=>by simp [jD] at h;subst h;rfl
 | u::vs,ds,h=>by
  unfold jD at h
  split at h
  ·rename_i x l hx hl
   simp at h;subst h;simp [pO hl]
  ·simp at h
theorem mP (z:Array Value) (hz:0<z.size):∀m,((Array.range (m * z.size)).map (fun i=>z[i % z.size]!)).toList=(List.replicate m z.toList).flatten:=by
 intro m;apply List.ext_getElem?;intro j;have hlen:((List.replicate m z.toList).flatten).length=m * z.size:=by simp
 by_cases hj:j<m * z.size
 ·have h1:((Array.range (m * z.size)).map (fun i=>z[i % z.size]!)).toList[j]? = some (z[j % z.size]!):=by
   rw [Array.getElem?_toList,Array.getElem?_map];simp [hj]
  rw [h1];have hmod:=Nat.mod_lt j hz;have hdiv:j / z.size<m:=by rw [Nat.div_lt_iff_lt_mul hz];exact hj
  have h2:=tA (k:=z.size) (xs:=List.replicate m z.toList) (fun x hx=>by rw [List.eq_of_mem_replicate hx];simp) (i:=j / z.size) (cs:=z.toList) (by rw [List.getElem?_replicate,if_pos hdiv]);have h3:(List.replicate m z.toList).flatten[j]? = z.toList[j % z.size]?:=by
   have h4:(((List.replicate m z.toList).flatten.drop (j / z.size * z.size)).take z.size)[j % z.size]? = (List.replicate m z.toList).flatten[j]?:=by
    rw [List.getElem?_take,if_pos hmod,List.getElem?_drop,Nat.div_add_mod']
   rw [<- h4,h2]
  rw [h3];simp [hmod]
 ·rw [List.getElem?_eq_none (by simp;omega),List.getElem?_eq_none (by rw [hlen];omega)]
theorem aX.replicate {w:World} {J:Nat->Nat->Prop} {zs:List Dat} {vs:List Value} (h:aX w J zs vs):∀m,aX w J (List.replicate m zs).flatten (List.replicate m vs).flatten
 | 0=>by simp [aX]
 | m+1=>by
  rw [List.replicate_succ,List.replicate_succ,List.flatten_cons,List.flatten_cons];exact h.append (aX.replicate h m)
section
variable {P : Program} {Q : aH -> St -> Prop} {q : V -> St -> Tree} {c : Cx} {w0 : World} {n : Nat} {gs : Fr} {st : St} {a : Act} {K : Act -> World -> Prop} {Qx : Exit -> Act -> World -> Prop} {o : Oper} {xx : aH -> St -> Tree}
theorem vP:∀{ps:List (Nat×Operand)} {qs:List (Nat×Opd)},mJ ps=some qs->ps.length=qs.length/\∀p∈ps.zip qs,p.1.1=p.2.1/\al p.1.2=some p.2.2
 | [],qs,h=>by simp [mJ] at h;subst h;simp
 | (i,x)::ps,qs,h=>by
  unfold mJ at h
  split at h
  ·rename_i y l hy hl
   simp at h;subst h;obtain ⟨h1,h2⟩:=vP hl;refine ⟨by simp [h1],?_⟩;intro p hp;simp at hp
   rcases hp with rfl|hp
   ·exact ⟨rfl,hy⟩
   ·exact h2 p (by simpa using hp)
  ·simp at h
theorem Jn (r:Rel c w0 n gs st a) (hK:bn P Q q c w0 n gs st a o.dst K) {t e:TypeId} {k len:Nat} {zs:List Dat} {ps:Array (Nat×Operand)} {qs:List (Nat×Opd)} (ho:o.op = .buildSlice t len ps) (hu:P.underlying t=some (.slice e)) (hk:sizeT P e=some k) (hkp:0<k)
  (hz:lH P e=some zs) (hzl:zs.length=k) (hle:len * k<=16777216) (hq:mJ ps.toList=some qs) (h:WT P Q (step (.bM k len zs qs) st q xx)):o.wp P a c.w K Qx:=by
 simp only [step] at h
 split at h
 ·rename_i xs hxs
  obtain ⟨z,hzv,hzd⟩:=uB (w:=c.w) hz;obtain ⟨hl,Rw⟩:=vP hq;have hzk:z.cells.size=k:=by have:=pO hzd;simp at this;omega
  have hzr:=fH hzd c.w (Imm c);have j6:=mP z.cells (by omega) len;rw [hzk] at j6;obtain ⟨vs',g1,g2,g3,g4,g5⟩:=Ik r ps.toList qs (List.replicate len zs) xs ((Array.range (len * k)).map (fun i=>z.cells[i % k]!)) Rw hl
   (fun x hx=>by rw [List.eq_of_mem_replicate hx];exact hzl) (by rw [j6];exact aX.replicate hzr len)
   (fun v hv=>by
    rw [j6] at hv;obtain ⟨l,hl1,hl2⟩:=List.mem_flatten.1 hv;rw [List.eq_of_mem_replicate hl1] at hl2;exact pN hzd v hl2) hxs
  obtain ⟨p1,p2⟩:=Il r (e:=e) g2 g4 g5;have hlen:xs.length=len:=by rw [g3];simp
  rw [hlen] at p2;refine ca (w':=c.w.alloc (.cells vs' e)) ?_ (hK { c with w:=c.w.alloc (.cells vs' e) } st _ _ rfl rfl p1 rfl p2 h);simp only [execOp,ho];have:(Instr.buildSlice t len (ps.map fun (i,x)=>(i,a.eval x))).run P c.w = .ok (.slice (some ⟨c.w.heap.size,0,none⟩) len len) (c.w.alloc (.cells vs' e)):=by
   unfold Instr.buildSlice;rw [run_bind_ok (bC hu)];simp only [];rw [run_bind_ok (eH hk)];have hgt:¬len * k>2 ^ 24:=by omega
   simp only [hgt,if_false];have hps:(ps.map fun (i,x)=>(i,a.eval x)).toList=ps.toList.map fun (i,x)=>(i,a.eval x):=by simp
   by_cases h0:len * k=0
   ·rw [if_pos h0]
    rw [run_bind_ok (s:=pure _) (x:=(#[]:Array Value)) (w':=c.w) rfl];have harr:(Array.range (len * k)).map (fun i=>(#[]:Array Value)[i % (#[]:Array Value).size]!)=(Array.range (len * k)).map (fun i=>z.cells[i % k]!):=by
     apply Array.ext
     ·simp
     ·intro i h1 h2;simp [h0] at h1
    simp only [harr,hps,g1];rfl
   ·rw [if_neg h0]
    rw [run_bind_ok hzv];rw [run_bind_ok (s:=pure _) (x:=z.cells) (w':=c.w) rfl];simp only [hzk,hps,g1];rfl
  rw [run_bind_ok this];rfl
 ·exact h.elim
theorem K3 (r:Rel c w0 n gs st a) (hK:bn P Q q c w0 n gs st a o.dst K) {t e:TypeId} {k len:Nat} {zs:List Dat} {ps:Array (Nat×Operand)} {qs:List (Nat×Opd)} (ho:o.op = .buildSlice t len ps) (hu:P.underlying t=some (.slice e)) (hk:sizeT P e=some k) (hkp:0<k)
  (hz:lH P e=some zs) (hzl:zs.length=k) (hle:len * k<=16777216) (hq:mJ ps.toList=some qs) (h:WT P Q (step (.yi k len zs qs) st q xx)):o.wp P a c.w K Qx:=by
 simp only [step] at h
 split at h
 ·rename_i xs hxs
  obtain ⟨z,hzv,hzd⟩:=uB (w:=c.w) hz;obtain ⟨hl,Rw⟩:=vP hq;have hzk:z.cells.size=k:=by have:=pO hzd;simp at this;omega
  have hzr:=fH hzd c.w (Imm c);have j6:=mP z.cells (by omega) len;rw [hzk] at j6;obtain ⟨vs',g1,g2,g3,g4,g5⟩:=Ik r ps.toList qs (List.replicate len zs) xs ((Array.range (len * k)).map (fun i=>z.cells[i % k]!)) Rw hl
   (fun x hx=>by rw [List.eq_of_mem_replicate hx];exact hzl) (by rw [j6];exact aX.replicate hzr len)
   (fun v hv=>by
    rw [j6] at hv;obtain ⟨l,hl1,hl2⟩:=List.mem_flatten.1 hv;rw [List.eq_of_mem_replicate hl1] at hl2;exact pN hzd v hl2) hxs
  have hlen:xs.length=len:=by rw [g3];simp
  have hsz:vs'.size=len * k:=by
   have:=g4.length;rw [fE g2,hlen] at this;simpa using this
  obtain ⟨p1,p2⟩:=yw r true (e:=e) (cap:=len) (k:=k) (xs:=xs) (us:=vs'.toList) (vs:=vs') g2 g4 g5 hsz (by rw [hlen];exact Nat.le_refl _) (by rw [hlen,<- hsz];exact List.take_of_length_le (by simp));rw [hlen] at p2;refine ca (w':=c.w.alloc (.cells vs' e)) ?_ (hK (c.push st.next len (cA true k xs) (.cells vs' e)) _ _ _ rfl rfl p1 rfl p2 h);simp only [execOp,ho];have:(Instr.buildSlice t len (ps.map fun (i,x)=>(i,a.eval x))).run P c.w = .ok (.slice (some ⟨c.w.heap.size,0,none⟩) len len) (c.w.alloc (.cells vs' e)):=by
   unfold Instr.buildSlice;rw [run_bind_ok (bC hu)];simp only [];rw [run_bind_ok (eH hk)];have hgt:¬len * k>2 ^ 24:=by omega
   simp only [hgt,if_false];have hps:(ps.map fun (i,x)=>(i,a.eval x)).toList=ps.toList.map fun (i,x)=>(i,a.eval x):=by simp
   by_cases h0:len * k=0
   ·rw [if_pos h0]
    rw [run_bind_ok (s:=pure _) (x:=(#[]:Array Value)) (w':=c.w) rfl];have harr:(Array.range (len * k)).map (fun i=>(#[]:Array Value)[i % (#[]:Array Value).size]!)=(Array.range (len * k)).map (fun i=>z.cells[i % k]!):=by
     apply Array.ext
     ·simp
     ·intro i h1 h2;simp [h0] at h1
    simp only [harr,hps,g1];rfl
   ·rw [if_neg h0]
    rw [run_bind_ok hzv];rw [run_bind_ok (s:=pure _) (x:=z.cells) (w':=c.w) rfl];simp only [hzk,hps,g1];rfl
  rw [run_bind_ok this];rfl
 ·exact h.elim
theorem NT (r:Rel c w0 n gs st a) (hK:bn P Q q c w0 n gs st a o.dst K) {t e:TypeId} {k m:Nat} {x i:Operand} {y j:Opd} (ho:o.op = .indexAddr t x i) (hu:P.underlying t=some (.array m e)) (hk:sizeT P e=some k)
  (hc1:al x=some y) (hc2:al i=some j) (h:WT P Q (step (.Et m k y j) st q xx)):o.wp P a c.w K Qx:=by
 have run:∀{b o' : Nat} {ik:IntKind} {d:Int},a.eval x = .pointer (some ⟨b,o',none⟩)->a.eval i = .int ik d->0<=d->d<m->(execOp a.eval o).run P c.w = .ok (.value (.pointer (some ⟨b,o' + d.toNat * k,none⟩))) c.w:=by
  intro b o' ik d hx hi h1 h2;simp only [execOp,ho];have:(Instr.indexAt t (a.eval x) (a.eval i)).run P c.w = .ok (.pointer (some ⟨b,o' + d.toNat * k,none⟩)) c.w:=by
   rw [hx,hi];simp [Instr.indexAt,asIntOf,bC hu,eH hk,h1,h2,addr_add,Instr.sureAddr]
  rw [run_bind_ok this];rfl
 simp only [step] at h
 split at h
 ·rename_i id off ik d hv1 hv2
  obtain ⟨e1,e2⟩:=aD r hc1 hv1;have e5:=aD r hc2 hv2;simp only [aA,aE] at e5;simp only [WT] at h
  cases hb:(decide (0<=d)&&decide (d<(m:Int))) with
  | false=>exact (h.2 hb).elim
  | true=>
   have g:=h.1 hb;simp at hb;exact aK r hK (v:=.ptr id (off+d.toNat * k)) ⟨e1,rfl⟩ g (run e2 e5 hb.1 hb.2)
 ·rename_i cs off ik d hv1 hv2
  obtain ⟨b,o',e1,e2⟩:=aD r hc1 hv1;have e5:=aD r hc2 hv2;simp only [aA,aE] at e5;simp only [WT] at h
  cases hb:(decide (0<=d)&&decide (d<(m:Int))) with
  | false=>exact (h.2 hb).elim
  | true=>
   have g:=h.1 hb;simp at hb;refine aK r hK (v:=.ro cs (off+d.toNat * k)) ⟨b,o',?_,e2⟩ g (run e1 e5 hb.1 hb.2);rw [Nat.add_assoc]
 ·exact h.elim
theorem NU (r:Rel c w0 n gs st a) (hK:bn P Q q c w0 n gs st a o.dst K) {t e:TypeId} {k bytes:Nat} {zs:List Dat} {m:Bool} {x1 x2:Operand} {y1 y2:Opd} (ho:o.op = .makeSlice t x1 x2) (he:qt P t e k bytes) (hkp:0<k) (hz:lH P e=some zs) (hzl:zs.length=k)
  (hc1:al x1=some y1) (hc2:al x2=some y2) (h:WT P Q (step (.Au m k bytes zs y1 y2) st q xx)):o.wp P a c.w K Qx:=by
 simp only [step] at h
 split at h
 ·rename_i l cp hv1 hv2
  have e1:=aD r hc1 hv1;have e2:=aD r hc2 hv2;simp only [aA,aE] at e1 e2;simp only [WT] at h
  cases hd:(decide (0<=l)&&decide (l<=cp)&&decide (cp * (bytes:Int)<=70368744177664)) with
  | false=>exact (h.2 hd).elim
  | true=>
   have g:=h.1 hd;simp only [Bool.and_eq_true,decide_eq_true_eq] at hd;obtain ⟨⟨d1,d2⟩,d3⟩:=hd;obtain ⟨i,z,zs',hi,hsz,hby,hzero,hzs,hzk⟩:=he.info;have hzs' : zs' = zs:=by
    simp only [lH,hi,hzero] at hz;rw [hzs] at hz;injection hz
   subst hzs';have hpos:=he.pos;have hcb:cp<=70368744177664:=by
    have:cp * 1<=cp * (bytes:Int):=Int.mul_le_mul_of_nonneg_left (by omega) (by omega);omega
   have j6:=mP z.cells (by omega) cp.toNat;rw [hzk] at j6;have hzr:=fH hzs c.w (Imm c);have hmc:(madeCells z.cells (cp.toNat * k)).toList=(List.replicate cp.toNat z.cells.toList).flatten:=by
    rw [<- j6];simp [madeCells,hzk]
   have hll:∀x∈List.replicate cp.toNat z.cells.toList,x.length=k:=fun x hx=>by rw [List.eq_of_mem_replicate hx];simpa using hzk
   obtain ⟨p1,p2⟩:=yw r m (e:=e) (cap:=cp.toNat) (k:=k) (xs:=List.replicate l.toNat zs') (us:=(List.replicate l.toNat z.cells.toList).flatten) (vs:=madeCells z.cells (cp.toNat * k))
    (fun x hx=>by rw [List.eq_of_mem_replicate hx];exact hzl) (aX.replicate hzr _)
    (fun v hv=>by
     obtain ⟨l',hl1,hl2⟩:=List.mem_flatten.1 hv;rw [List.eq_of_mem_replicate hl1] at hl2;exact pN hzs v hl2)
    (by have:=congrArg List.length hmc;rw [fE hll] at this;simpa using this)
    (by simp;omega)
    (by
     rw [hmc,List.length_replicate,<- jK hll l.toNat (by simp;omega)]
     congr 1
     rw [List.take_replicate]
     congr 1;omega)
   rw [List.length_replicate] at p2;refine ca (w':=c.w.alloc (.cells (madeCells z.cells (cp.toNat * k)) e)) ?_ (hK (c.push st.next cp.toNat (cA m k (List.replicate l.toNat zs')) (.cells (madeCells z.cells (cp.toNat * k)) e)) _ _ _ rfl rfl p1 rfl p2 g);simp only [execOp,ho,e1,e2];have:=run_make c.w t e i z he.und hi hzero .i64 .i64 l cp d1 d2 (by rw [hby,Int.mul_comm];omega) (by omega);rw [hsz] at this;rw [run_bind_ok this];rfl
 ·exact h.elim
end
end Uw
