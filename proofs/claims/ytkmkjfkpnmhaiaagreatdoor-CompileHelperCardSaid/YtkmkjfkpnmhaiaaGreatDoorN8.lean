/- N8: Pp Po Xb Xc Xd Xe Xf Xg Xh Xi Xj Pq Ps Px Ho Gn Hc (merged by merge2.py from the working texts). -/
import Derived.Test.YtkmkjfkpnmhaiaaGreatDoorN7
import Derived.Test.YtkmkjfkpnmhaiaaGreatDoorN4
import Derived.Test.YtkmkjfkpnmhaiaaGreatDoorN5
import Derived.Test.YtkmkjfkpnmhaiaaGreatDoorN3
import Derived.Test.YtkmkjfkpnmhaiaaGreatDoorNs
import Derived.Lib.AtoiErrMem
set_option maxRecDepth 4000
set_option maxHeartbeats 2000000
set_option linter.unusedSimpArgs false
set_option linter.unnecessarySimpa false
set_option linter.unusedVariables false
set_option linter.unusedSectionVars false
namespace Uw.Tryz
open Go Uw
def gd:List Fn->Nat->List (List Dat)
 | [],_=>[]
 | f::fs,b=>[.str f.name,jZ f.args,I ((b+f.body.sz:Nat))]::gd fs (b+f.sz)
theorem BU:∀(a c:List Fn) (b:Nat),gd (a++c) b=gd a b++gd c (b+eU a)
 | [],c,b=>by simp [gd,eU]
 | f::fs,c,b=>by simp [gd,eU,BU fs,Nat.add_assoc]
theorem su:∀(a:List Fn) (b:Nat),(gd a b).length=a.length
 | [],b=>rfl
 | f::fs,b=>by simp [gd,su fs]
def Nc (l:List Tok) (x:R (List Dec×List Fn)):Out:=
 match x with
 | .ok (ds,fs) _=>.ok (.agg [.d (.slice 3 (ds.map cI) false),.d (.slice 3 (gd fs 0) false),.d (.slice 5 ((cC fs 0).map bW) false)]) (rdN l l.length (cC fs 0))
 | .bad=>.bad
 | .out=>.out
theorem Ql {l:List Tok} {x:R (List Dec×List Fn)} (h:x≠R.out):Nc l x≠Out.out:=by
 cases x with
 | out=>exact absurd rfl h
 | bad=>intro h;cases h
 | ok e r=>intro h;cases h
theorem Wu {f:FuncId} {vs:List V} {l:List Tok} {k:Nat} {ns:List Nod} {x:R Dec} (h:cY f vs (rdN l k ns) (sQ l ns x)) (hk:k<=l.length) (hs:∀e r,x = .ok e r->Suf (l.drop k) r 1) :
  x = .out\/(x = .bad/\kP P0 f vs (rdN l k ns) cT)\/∃e k',x = .ok e (l.drop k')/\k'<=l.length/\k+1<=k'/\bk P0 f vs (rdN l k ns) (Gz e) (rdN l k' ns):=by
 cases x with
 | out=>exact .inl rfl
 | bad=>exact .inr (.inl ⟨rfl,h⟩)
 | ok e r=>
  obtain ⟨k',h1,rfl,h2⟩:=rR (hs e r rfl) hk;refine .inr (.inr ⟨e,k',rfl,h1,h2,?_⟩);have h:bk P0 f vs (rdN l k ns) (Gz e) (rdN l (l.length - (l.drop k').length) ns):=h;rw [len_drop h1] at h;exact h
theorem Wv {f:FuncId} {vs:List V} {l:List Tok} {k:Nat} {ns:List Nod} {x:R Fn} (h:cY f vs (rdN l k ns) (Nb l ns x)) (hk:k<=l.length) (hs:∀e r,x = .ok e r->Suf (l.drop k) r (e.body.sz+1)) :
  x = .out\/(x = .bad/\kP P0 f vs (rdN l k ns) cT)\/∃e k',x = .ok e (l.drop k')/\k'<=l.length/\k+(e.body.sz+1)<=k'/\bk P0 f vs (rdN l k ns) (.agg [.d (.str e.name),.d (jZ e.args),.d (I ((ns.length+e.body.sz:Nat)))]) (rdN l k' (ns++e.body.all ns.length)):=by
 cases x with
 | out=>exact .inl rfl
 | bad=>exact .inr (.inl ⟨rfl,h⟩)
 | ok e r=>
  obtain ⟨k',h1,rfl,h2⟩:=rR (hs e r rfl) hk;refine .inr (.inr ⟨e,k',rfl,h1,h2,?_⟩);have h:bk P0 f vs (rdN l k ns) (.agg [.d (.str e.name),.d (jZ e.args),.d (I ((ns.length+e.body.sz:Nat)))]) (rdN l (l.length - (l.drop k').length) (ns++e.body.all ns.length)):=h;rw [len_drop h1] at h;exact h
theorem GI {α:Type} {d:Int} {p q:List Tok->R α} (hp:IsP d p q) (he:wa p) {r r' : List Tok} {a:α} (h:p r = .ok a r'):Suf r r' 1:=by
 obtain ⟨c,rfl⟩:=hp.pre _ _ _ h;have:=he _ _ _ h;simp at this;exact ⟨c.length,by simp,by simp,by cases c<;>simp at *⟩
theorem Qm {n:Nat} {r r' : List Tok} {f:Fn} (h:rh n r = .ok f r'):Suf r r' (f.body.sz+1):=by
 rw [rh] at h;obtain ⟨_,r1,h1,h⟩:=bind_ok.1 h;obtain ⟨s,r2,h2,h⟩:=bind_ok.1 h;obtain ⟨l,r3,h3,h⟩:=bind_ok.1 h;obtain ⟨b,r4,h4,h⟩:=bind_ok.1 h;injection h with h h'
 subst h h';have:Suf r2 r3 0:=by
  obtain ⟨c,rfl⟩:=(sc n).pre _ _ _ h3;exact ⟨c.length,by simp,by simp,Nat.zero_le _⟩
 exact ((Suf.want (by decide) h1).trans ((Suf.name h2).trans (this.trans ((s4 n).block _ _ _ h4)))).le (by simp only;omega)
theorem Tv (l:List Tok) (hl:l.length<1000000) (n:Nat):cY ez [.ptr 0 0] (rdN l 0 []) (Nc l (uS n l)):=by
 rw [uS];generalize hR:((fw n l).bind fun d r=>(gx n r).bind fun f r=>R.ok (d,f) r)=Rr;by_cases hout:Rr = .out
 ·rw [hout];exact trivial
 have hR:((fw n (l.drop 0)).bind fun es r=>R.ok (([]:List Dec)++es) r).bind (fun d r=>(gx n r).bind fun f r=>R.ok (d,f) r)=Rr:=by
  rw [<- hR,List.drop_zero]
  cases fw n l<;>rfl
 refine sq pa rfl (Ql hout) ?_
 repeat' first|refine aw ?_|refine bw (fun _=>?_) fun _=>?_
 refine dG (fun ((ds,k,m):List Dec×Nat×Nat)=>⟨[(3,.ptr 3 0),(2,.ptr 2 0),(0,.ptr 0 0)],br 0 (rdN l k []++[.var [.d .nil,.d .nil,.d .nil],.var [.ref 4 0 0 (ds.map cI).length,.d .nil,.d .nil],.arr 3 (ds.map cI)]),5,[],2⟩)
  (fun (ds,k,m)=>((fw m (l.drop k)).bind fun es r=>R.ok (ds++es) r).bind (fun d r=>(gx n r).bind fun f r=>R.ok (d,f) r)=Rr/\k<=l.length/\ds.length<=k) (fun (_,_,m)=>m) ([],0,n) (by exact Uw.wW) ⟨hR,Nat.zero_le _,Nat.le_refl _⟩ ?_
 clear hR;rintro ⟨ds,k,m⟩ ⟨hR,hk,hds⟩;have hdl:(ds.map cI).length=ds.length:=by simp
 cases m with
 | zero=>rw [fw] at hR;exact absurd hR.symm hout
 | succ m=>
  have pk:=bO l k (([]:List Nod).map bW) hk;have e1:(l.map rc).length=l.length:=by simp
  by_cases hs:l.drop k=[]\/hd (l.drop k)=nO
  ·rw [fw,if_pos hs] at hR
   have hR:((gx n (l.drop k)).bind fun es r=>R.ok (([]:List Fn)++es) r).bind (fun f r=>R.ok (ds,f) r)=Rr:=by
    rw [<- hR];show _=(gx n (l.drop k)).bind fun f r=>R.ok (ds++[],f) r;rw [List.append_nil]
    cases gx n (l.drop k)<;>rfl
   have hcase:(k<l.length/\hd (l.drop k)=nO)\/¬k<l.length:=by
    by_cases hk2:k<l.length
    ·exact .inl ⟨hk2,hs.resolve_left (by intro e;have:=congrArg List.length e;simp at this;omega)⟩
    ·exact .inr hk2
   clear hs
   rcases hcase with ⟨hk0,hs2⟩|hk0
   rotate_left
   repeat' first|refine aw ?_|refine bw (fun _=>?_) fun _=>?_
   refine aC ?_
   repeat' first|refine aw ?_|refine bw (fun _=>?_) fun _=>?_
   rotate_left;rw [hs2] at pk
   repeat' first|refine aw ?_|refine bw (fun _=>?_) fun _=>?_
   refine ag 5 [0,1] pk ?_
   repeat' first|refine aw ?_|refine bw (fun _=>?_) fun _=>?_
   refine aC ?_
   repeat' first|refine aw ?_|refine bw (fun _=>?_) fun _=>?_
   all_goals clear hk0
   all_goals
    refine dG (fun ((fs,k,m):List Fn×Nat×Nat)=>⟨[(3,.ptr 3 0),(2,.ptr 2 0),(0,.ptr 0 0)],br 0 (rdN l k (cC fs 0)++[.var [.d .nil,.d .nil,.d .nil],.var [.ref 4 0 0 (ds.map cI).length,.ref 5 0 0 (gd fs 0).length,.d .nil],.arr 3 (ds.map cI),.arr 3 (gd fs 0)]),6,[],2⟩)
     (fun (fs,k,m)=>((gx m (l.drop k)).bind fun es r=>R.ok (fs++es) r).bind (fun f r=>R.ok (ds,f) r)=Rr/\k<=l.length/\fs.length+eU fs<=2 * k/\eU fs<=k) (fun (_,_,m)=>m) ([],k,n) (by exact Uw.wW) ⟨hR,hk,by simp [eU],by simp [eU]⟩ ?_
    clear hR;rintro ⟨fs,k,m⟩ ⟨hR,hk,hfs,hsz⟩;have hfl:(gd fs 0).length=fs.length:=su fs 0;have hnl:(cC fs 0).length=eU fs:=tW fs 0
    cases m with
    | zero=>rw [gx] at hR;exact absurd hR.symm hout
    | succ m=>
     by_cases hk2:k<l.length
     ·rw [gx,if_neg (by intro e;have:=congrArg List.length e;simp at this;omega)] at hR
      rcases Wv (Vp l hl m k (cC fs 0) hk (by omega)) hk (fun e r h=>Qm h) with h0|⟨h0,h1⟩|⟨f,k2,h0,hk3,Gy,h1⟩
      ·rw [h0] at hR;exact absurd hR.symm hout
      ·rw [h0] at hR
       have hb:Nc l Rr = .bad:=by rw [<- hR];rfl
       clear hR hout h0
       repeat' first|refine aw ?_|refine bw (fun _=>?_) fun _=>?_
       refine o5 ?_
       repeat' first|refine aw ?_|refine bw (fun _=>?_) fun _=>?_
       refine bh 6 [0,1] h1 ?_;intro H q
       repeat' first|refine aw ?_|refine bw (fun _=>?_) fun _=>?_
       refine aY ⟨cT,rfl,?_⟩
       repeat' first|refine aw ?_|refine bw (fun _=>?_) fun _=>?_
       exact mU (mq 2 hb rfl)
      ·rw [h0] at hR
       have hR:((gx m (l.drop k2)).bind fun es r=>R.ok ((fs++[f])++es) r).bind (fun f r=>R.ok (ds,f) r)=Rr:=by
        rw [<- hR];show _=R.bind (R.bind (R.bind (gx m (l.drop k2)) _) _) _
        cases gx m (l.drop k2) with
        | ok es r=>show R.bind (R.ok (fs++[f]++es) r) _=R.bind (R.ok (fs++(f::es)) r) _;rw [List.append_assoc];rfl
        | bad=>rfl
        | out=>rfl
       have hsf:eU (fs++[f])=eU fs+(f.body.sz+1):=by rw [BH];simp [eU,Fn.sz]
       have hnn:cC fs 0++f.body.all (cC fs 0).length=cC (fs++[f]) 0:=by rw [zb,hnl];simp [cC]
       have hff:gd fs 0++[[.str f.name,jZ f.args,I (((cC fs 0).length+f.body.sz:Nat))]]=gd (fs++[f]) 0:=by rw [BU,hnl];simp [gd]
       have hfn:(gd fs 0).length+1=(gd (fs++[f]) 0).length:=by rw [su,su];simp
       rw [hnn] at h1;have hz:jZ f.args = .nil\/jZ f.args = .slice 1 (lp f.args) false:=by
        unfold jZ
        split
        ·exact .inl rfl
        ·exact .inr rfl
       clear hout h0 hnn
       rcases hz with e|e
       all_goals rw [e] at h1 hff
       all_goals (repeat' first|refine aw ?_|refine bw (fun _=>?_) fun _=>?_)
       all_goals refine bZ ⟨[(3,.ptr 3 0),(2,.ptr 2 0),(0,.ptr 0 0)],br 0 (rdN l k2 (cC (fs++[f]) 0)++[.var [.d .nil,.d .nil,.d .nil],.var [.ref 4 0 0 (ds.map cI).length,.ref 5 0 0 (gd (fs++[f]) 0).length,.d .nil],.arr 3 (ds.map cI),.arr 3 (gd (fs++[f]) 0)]),6,[],2⟩ ?_ ?_
       any_goals
        repeat' first|refine aw ?_|refine bw (fun _=>?_) fun _=>?_
        refine ag 6 [0,1] h1 ?_
        repeat' first|refine aw ?_|refine bw (fun _=>?_) fun _=>?_
        exact aY (.inl ⟨rfl,by exact Uw.wW⟩)
       all_goals (repeat' first|refine aw ?_|refine bw (fun _=>?_) fun _=>?_)
       all_goals exact cv (fs++[f],k2,m) ⟨hR,hk3,by rw [hsf];simp;omega,by omega⟩ (by simp only;omega) (by exact Uw.wW)
     ·rw [List.drop_eq_nil_of_le (by omega),gx,if_pos rfl] at hR
      have hR:R.ok (ds,fs++[]) []=Rr:=hR;rw [List.append_nil] at hR;have hkl:k=l.length:=by omega
      have hb:Nc l Rr = .ok (.agg [.d (.slice 3 (ds.map cI) false),.d (.slice 3 (gd fs 0) false),.d (.slice 5 ((cC fs 0).map bW) false)]) (rdN l l.length (cC fs 0)):=by rw [<- hR];rfl
      have z1:((ds.map cI).drop 0).take (ds.map cI).length=ds.map cI:=by rw [List.drop_zero,List.take_length]
      have z2:((gd fs 0).drop 0).take (gd fs 0).length=gd fs 0:=by rw [List.drop_zero,List.take_length]
      have z3:(((cC fs 0).map bW).drop 0).take ((cC fs 0).map bW).length=(cC fs 0).map bW:=by rw [List.drop_zero,List.take_length]
      clear hR hout;subst hkl
      repeat' first|refine aw ?_|refine bw (fun _=>?_) fun _=>?_
      refine aC ?_
      repeat' first|refine aw ?_|refine bw (fun _=>?_) fun _=>?_
      exact vB 2 hb rfl rfl (by exact Uw.wW)
  ·rw [fw,if_neg hs] at hR
   have hk2:k<l.length:=by
    rcases Nat.lt_or_ge k l.length with h|h
    ·exact h
    ·exact absurd (.inl (List.drop_eq_nil_of_le h)) hs
   have hs2:hd (l.drop k)≠nO:=fun h=>hs (.inr h);clear hs;unfold nO at hs2
   rcases Wu (Tt l hl k [] hk) hk (fun e r h=>GI LW sd h) with h0|⟨h0,h1⟩|⟨d,k2,h0,hk3,Gy,h1⟩
   ·exact absurd h0 (IG _)
   ·rw [h0] at hR
    have hb:Nc l Rr = .bad:=by rw [<- hR];rfl
    clear hR hout h0
    repeat' first|refine aw ?_|refine bw (fun _=>?_) fun _=>?_
    refine ag 5 [0,1] pk ?_
    repeat' first|refine aw ?_|refine bw (fun _=>?_) fun _=>?_
    refine o5 ?_
    repeat' first|refine aw ?_|refine bw (fun _=>?_) fun _=>?_
    refine bh 5 [0,1] h1 ?_;intro H q
    repeat' first|refine aw ?_|refine bw (fun _=>?_) fun _=>?_
    refine aY ⟨cT,rfl,?_⟩
    repeat' first|refine aw ?_|refine bw (fun _=>?_) fun _=>?_
    exact mU (mq 2 hb rfl)
   ·rw [h0] at hR
    have hR:((fw m (l.drop k2)).bind fun es r=>R.ok ((ds++[d])++es) r).bind (fun d r=>(gx n r).bind fun f r=>R.ok (d,f) r)=Rr:=by
     rw [<- hR];show _=R.bind (R.bind (R.bind (fw m (l.drop k2)) _) _) _
     cases fw m (l.drop k2) with
     | ok es r=>show R.bind (R.ok (ds++[d]++es) r) _=R.bind (R.ok (ds++(d::es)) r) _;rw [List.append_assoc];rfl
     | bad=>rfl
     | out=>rfl
    have hdr:ds.map cI++[cI d]=(ds++[d]).map cI:=by simp
    have hdn:(ds.map cI).length+1=((ds++[d]).map cI).length:=by simp
    clear hout h0
    repeat' first|refine aw ?_|refine bw (fun _=>?_) fun _=>?_
    refine ag 5 [0,1] pk ?_
    repeat' first|refine aw ?_|refine bw (fun _=>?_) fun _=>?_
    refine bZ ⟨[(3,.ptr 3 0),(2,.ptr 2 0),(0,.ptr 0 0)],br 0 (rdN l k2 []++[.var [.d .nil,.d .nil,.d .nil],.var [.ref 4 0 0 ((ds++[d]).map cI).length,.d .nil,.d .nil],.arr 3 ((ds++[d]).map cI)]),5,[],2⟩ ?_ ?_
    ·repeat' first|refine aw ?_|refine bw (fun _=>?_) fun _=>?_
     refine ag 5 [0,1] h1 ?_
     repeat' first|refine aw ?_|refine bw (fun _=>?_) fun _=>?_
     exact aY (.inl ⟨rfl,by exact Uw.wW⟩)
    ·repeat' first|refine aw ?_|refine bw (fun _=>?_) fun _=>?_
     exact cv (ds++[d],k2,m) ⟨hR,hk3,by simp;omega⟩ (by simp only;omega) (by exact Uw.wW)
end Uw.Tryz
namespace Uw.Tryz
open Go Uw
theorem GK (s:Str):(s=[40]/\delta s=1)\/(s≠[40]/\s=[123]/\delta s=1)\/(s≠[40]/\s≠[123]/\s=[41]/\delta s = -1)\/(s≠[40]/\s≠[123]/\s≠[41]/\s=[125]/\delta s = -1)\/(s≠[40]/\s≠[123]/\s≠[41]/\s≠[125]/\delta s=0):=by
 unfold delta;by_cases h1:s=[40]
 ·subst h1;exact .inl ⟨rfl,by decide⟩
 ·by_cases h2:s=[123]
  ·subst h2;exact .inr (.inl ⟨h1,rfl,by decide⟩)
  ·by_cases h3:s=[41]
   ·subst h3;exact .inr (.inr (.inl ⟨h1,h2,rfl,by decide⟩))
   ·by_cases h4:s=[125]
    ·subst h4;exact .inr (.inr (.inr (.inl ⟨h1,h2,h3,rfl,by decide⟩)))
    ·exact .inr (.inr (.inr (.inr ⟨h1,h2,h3,h4,by simp [h1,h2,h3,h4]⟩)))
theorem Nh (a b:Int):max a b=mmI true a b:=rfl
theorem BV (a b:Int):a<=mmI true a b/\b<=mmI true a b/\(mmI true a b=a\/mmI true a b=b):=by
 rw [<- Nh];omega
theorem oO (l:List Tok) (hl:l.length<1000000):Ret P0 tf [uR l] (I (mX l 0 0)):=by
 have hm:(l.map rc).length=l.length:=by simp
 generalize hD:mX l 0 0=D;refine az ze rfl ?_
 repeat' first|refine aw ?_|refine bw (fun _=>?_) fun _=>?_
 refine dG (fun ((j,d,m):Nat×Int×Int)=>⟨[(9,.d (I j)),(8,.d (I (↑(List.map rc l).length))),(7,.d (uR l)),(4,.d (I m)),(3,.d (I d))],[],0,[],0⟩)
  (fun (j,d,m)=>j<=l.length/\mX (l.drop j) d m=D/\- (j:Int)<=d/\d<=j/\0<=m/\m<=j) (fun (j,_,_)=>l.length - j) (0,0,0) (by exact Uw.wW) ⟨Nat.zero_le _,hD,by simp,by simp,by simp,by simp⟩ ?_
 clear hD;rintro ⟨j,d,m⟩ ⟨hj,hD,h1,h2,h3,h4⟩;by_cases h:j<l.length
 ·rw [List.drop_eq_getElem_cons h,mX] at hD
  generalize hx:l[j]=x at *;obtain ⟨k,s,n,a⟩:=x;have he:(l.map rc)[((j:Int)).toNat]? = some [I k,.str s,I n,I a]:=by
   rw [show ((j:Int)).toNat=j by omega,CY _ _ _ h,hx];rfl
  have hD:mX (l.drop (j+1)) (d+delta s) (max m (d+delta s))=D:=hD
  rcases GK s with ⟨e1,e2⟩|⟨e0,e1,e2⟩|⟨e0,e3,e1,e2⟩|⟨e0,e3,e4,e1,e2⟩|⟨e0,e3,e4,e5,e2⟩
  all_goals rw [e2,Nh] at hD
  all_goals try rw [show d + -1=d - 1 by omega] at hD
  all_goals try rw [Int.add_zero] at hD
  all_goals (repeat' first|refine aw ?_|refine bw (fun _=>?_) fun _=>?_)
  all_goals first|exact cv (j+1,_,_) ⟨by omega,hD,by omega,by omega,by have:=BV m (d+1);have:=BV m (d - 1);have:=BV m d;omega,by have:=BV m (d+1);have:=BV m (d - 1);have:=BV m d;omega⟩ (by simp only;omega) (by exact Uw.wW)
 ·rw [List.drop_eq_nil_of_le (by omega),mX] at hD
  subst hD
  repeat' first|refine aw ?_|refine bw (fun _=>?_) fun _=>?_
  refine aC ?_
  repeat' first|refine aw ?_|refine bw (fun _=>?_) fun _=>?_
  exact ak rfl rfl rfl rfl rfl
end Uw.Tryz
namespace Uw.Tryz
open Go Uw
end Uw.Tryz
namespace Uw.Tryz
open Go Uw
def endOf (r:List UInt8):Nat:=
 match r with
 | []=>0
 | c::t=>if cls c=5 then (if c.toNat=61/\eqq t=true then 2 else 1)
  else if cls c=1 then 1+(t.takeWhile nameB).length else 1+(t.takeWhile ft).length
theorem nr (c:UInt8) (t:List UInt8) (h:cls c=5):endOf (c::t)=if c.toNat=61/\eqq t=true then 2 else 1:=by
 rw [endOf,if_pos h]
theorem vE {α:Type} (p:α->Bool) (l:List α) (k:Nat) (h:k<=l.length) (h1:∀(j:Nat) (hj:j<l.length),j<k->p l[j]=true) (h2:∀b,l[k]? = some b->p b=false):(l.takeWhile p).length=k:=by
 have e:l=l.take k++l.drop k:=by simp
 have h1' : ∀a∈l.take k,p a=true:=by
  intro a ha;rw [List.mem_take_iff_getElem] at ha;obtain ⟨j,hj,rfl⟩:=ha;exact h1 j (by omega) (by omega)
 rw [e,List.takeWhile_append_of_pos h1'];have:(l.drop k).takeWhile p=[]:=by
  cases hd:l.drop k with
  | nil=>rfl
  | cons b r=>
   have hb:l[k]? = some b:=by
    have:=congrArg (fun l=>l[0]?) hd;simpa using this
   rw [List.takeWhile_cons,h2 b hb];rfl
 rw [this];simp;omega
end Uw.Tryz
namespace Uw.Tryz
open Go Uw
theorem uq {b:UInt8} (h:ft b=true):48<=b.toNat/\b.toNat<=57:=by
 simp only [ft,decide_eq_true_eq] at h;unfold cls at h
 repeat' split at h
 all_goals first|omega|cases h
def xX (w:List UInt8):Int:=if 10<w.length\/(w.head? = some 48/\1<w.length) then -1 else if 4294967296<=qB w then -1 else ((qB w:Nat):Int)
theorem Jb (w:List UInt8) (h:0<w.length):(w.head? = some 48)<->w[0].toNat=48:=by
 cases w with
 | nil=>simp at h
 | cons b r=>
  simp only [List.head?_cons,Option.some.injEq,List.getElem_cons_zero];constructor
  ·intro e;rw [e];rfl
  ·intro e;exact UInt8.toNat_inj.1 e
end Uw.Tryz
namespace Uw.Tryz
open Go Uw
theorem lq (c:UInt8) (t:List UInt8) (h:cls c=1):bQ (c::t)=if endOf (c::t)<=12 then some (1,endOf (c::t),0) else none:=by
 have e:endOf (c::t)=1+(t.takeWhile nameB).length:=by simp [endOf,h]
 rw [bQ,if_pos h,e]
theorem lr (c:UInt8) (t:List UInt8) (h:cls c=5):bQ (c::t)=some (3,endOf (c::t),0):=by
 rw [bQ,if_neg (by omega),if_neg (by omega),if_pos h,nr c t h]
 split<;>rfl
theorem iF (c:UInt8) (t:List UInt8) (h:cls c≠1) (h2:cls c≠2) (h3:cls c≠5):bQ (c::t)=none:=by
 rw [bQ,if_neg h,if_neg h2,if_neg h3]
theorem wF (c:UInt8) (t:List UInt8) (h:cls c=2):endOf (c::t)=1+(t.takeWhile ft).length:=by simp [endOf,h]
theorem rT {α:Type} (p:α->Bool):∀(l:List α),l.drop (l.takeWhile p).length=l.dropWhile p
 | []=>rfl
 | y::r=>by
  rw [List.takeWhile_cons,List.dropWhile_cons]
  split
  ·rw [List.length_cons,List.drop_succ_cons,rT p r]
  ·rfl
theorem take_takeWhile {α:Type} (p:α->Bool):∀(l:List α),l.take (l.takeWhile p).length=l.takeWhile p
 | []=>rfl
 | y::r=>by
  rw [List.takeWhile_cons]
  split
  ·rw [List.length_cons,List.take_succ_cons,take_takeWhile p r]
  ·rfl
theorem vF (c:UInt8) (t:List UInt8) (h:cls c=2):(c::t).take (endOf (c::t))=c::t.takeWhile ft:=by
 rw [wF c t h,Nat.add_comm,List.take_succ_cons,take_takeWhile]
theorem Ni (c:UInt8) (t:List UInt8) (h:cls c=2):(c::t).drop (endOf (c::t))=t.dropWhile ft:=by
 rw [wF c t h,Nat.add_comm,List.drop_succ_cons,rT]
theorem all_takeWhile {α:Type} (p:α->Bool) (l:List α):(l.takeWhile p).all p=true:=by
 induction l with
 | nil=>rfl
 | cons y r ih=>
  rw [List.takeWhile_cons]
  split
  ·rename_i h;simp [h]
  ·rfl
theorem Jc (c:UInt8) (t:List UInt8) (h:cls c=2):((c::t).take (endOf (c::t))).all ft=true:=by
 rw [vF c t h,List.all_cons,all_takeWhile];simp [ft,h]
theorem nu (c:UInt8) (t:List UInt8) (h:cls c=2):bQ (c::t)=if 0<=xX ((c::t).take (endOf (c::t)))/\E4 ((c::t).drop (endOf (c::t)))=false then some (2,endOf (c::t),xX ((c::t).take (endOf (c::t)))) else none:=by
 rw [bQ,if_neg (by omega),if_pos h,vF c t h,Ni c t h,wF c t h];have hc:(c.toNat=48)<->((c::t.takeWhile ft).head? = some 48):=by rw [Jb _ (by simp)];rfl
 have n1:(10<(t.takeWhile ft).length+1\/c.toNat=48/\1<(t.takeWhile ft).length+1)->xX (c::t.takeWhile ft) = -1:=fun h=>by
  rw [xX,if_pos (by rw [<- hc];exact h)]
 have n2:¬(10<(t.takeWhile ft).length+1\/c.toNat=48/\1<(t.takeWhile ft).length+1)->xX (c::t.takeWhile ft)=if 4294967296<=qB (c::t.takeWhile ft) then -1 else ((qB (c::t.takeWhile ft):Nat):Int):=fun h=>by
  rw [xX,if_neg (by rw [<- hc];exact h)]
 generalize xX (c::t.takeWhile ft)=R at n1 n2;by_cases h1:1+(t.takeWhile ft).length<=10/\¬(1<1+(t.takeWhile ft).length/\c.toNat=48)
 ·have n2:=n2 (by omega)
  by_cases h2:qB (c::t.takeWhile ft)<4294967296
  ·rw [if_neg (by omega)] at n2
   by_cases h3:E4 (t.dropWhile ft)=false
   ·rw [if_pos ⟨h1.1,h1.2,h2,h3⟩,if_pos ⟨by omega,h3⟩,n2]
   ·rw [if_neg (fun h=>h3 h.2.2.2),if_neg (fun h=>h3 h.2)]
  ·rw [if_pos (by omega)] at n2
   rw [if_neg (fun h=>h2 h.2.2.1),if_neg (fun h=>by have:=h.1;omega)]
 ·have n1:=n1 (by omega)
  rw [if_neg (fun h=>h1 ⟨h.1,h.2.1⟩),if_neg (fun h=>by have:=h.1;omega)]
theorem GL (c:UInt8) (t:List UInt8):1<=endOf (c::t)/\endOf (c::t)<=t.length+1:=by
 have h1:=mb nameB t;have h2:=mb ft t;rw [endOf]
 split
 ·split
  ·rename_i h
   cases t with
   | nil=>simp [eqq] at h
   | cons b r=>simp
  ·omega
 ·split<;>omega
def Read (s:List UInt8) (a:Nat) (out:List Tok):Prop:=o7 s 0=(o7 (s.drop a) (a:Int)).map (out++·)
theorem Read.init (s:List UInt8):Read s 0 []:=by
 rw [Read,List.drop_zero];simp
theorem Read.blank {s:List UInt8} {a:Nat} {out:List Tok} (h:Read s a out) (ha:a<s.length) (hb:cls s[a]=4):Read s (a+1) out:=by
 rw [Read,List.drop_eq_getElem_cons ha,Hv _ _ _ hb] at h;rw [Read,h];rfl
theorem Read.none {s:List UInt8} {a:Nat} {out:List Tok} (h:Read s a out) (ha:a<s.length) (hb:cls s[a]≠4) (ht:bQ (s.drop a)=none):o7 s 0=none:=by
 rw [Read] at h;rw [h];rw [List.drop_eq_getElem_cons ha] at ht ⊢;rw [JG _ _ _ hb ht];rfl
theorem Read.tok {s:List UInt8} {a:Nat} {out:List Tok} (h:Read s a out) (ha:a<s.length) (hb:cls s[a]≠4) {k:Int} {n:Nat} {v:Int} (ht:bQ (s.drop a)=some (k,n,v)) :
  Read s (a+n) (out++[⟨k,(s.drop a).take n,v,a⟩]):=by
 rw [Read,h];rw [List.drop_eq_getElem_cons ha] at ht ⊢;rw [LR _ _ _ hb ht,<- List.drop_eq_getElem_cons ha,List.drop_drop];rw [show ((a:Int)+(n:Int))=((a+n:Nat):Int) by omega]
 cases o7 (s.drop (a+n)) ((a+n:Nat):Int) with
 | none=>rfl
 | some l=>simp
theorem Read.end {s:List UInt8} {a:Nat} {out:List Tok} (h:Read s a out) (ha:s.length<=a):o7 s 0=some out:=by
 rw [Read] at h;rw [h,List.drop_eq_nil_of_le ha,LQ];simp
def A0 (s:List UInt8):Dat:=if 4000<s.length then .tuple [.nil,I 2] else match o7 s 0 with|none=>.tuple [.nil,I 3]|some l=>.tuple [uR l,I 0]
theorem Qn (s:List UInt8):DLe (A0 s) (LS (fM s)):=by
 rw [A0,fM];by_cases h:4000<s.length
 ·rw [if_pos h,if_pos h];exact .tuple (.cons (.nil 4) (.refl _))
 ·rw [if_neg h,if_neg h]
  cases o7 s 0 with
  | none=>exact .tuple (.cons (.nil 4) (.refl _))
  | some l=>exact .refl _
theorem Qo {s:List UInt8} {a n:Nat} (h:a+n<=s.length):((s.drop a).take n).length=n:=by simp;omega
end Uw.Tryz
namespace Uw.Tryz
open Go Uw
def sR (r:Int):Bool:=decide ((97<=r/\r<=122)\/(65<=r/\r<=90))
def wG (r:Int):Bool:=decide (48<=r/\r<=57)
def Ae (r:Int):Bool:=decide (r=9\/r=10\/r=32)
theorem qn (r:Int):Ret P0 mf [.int .i32 r] (.bool (sR r)):=by
 refine az ti rfl ?_
 repeat' first|refine aw ?_|refine bw (fun _=>?_) fun _=>?_
 all_goals
  refine ak (P:=P0) rfl rfl rfl rfl ?_;exact congrArg Dat.bool (Bool.eq_iff_iff.2 (by simp only [decide_eq_true_eq,Bool.or_eq_true,sR,wG,Ae,eq_self,true_iff,Bool.false_eq_true,false_iff];omega))
theorem xp (r:Int):Ret P0 oc [.int .i32 r] (.bool (wG r)):=by
 refine az u9 rfl ?_
 repeat' first|refine aw ?_|refine bw (fun _=>?_) fun _=>?_
 all_goals
  refine ak (P:=P0) rfl rfl rfl rfl ?_;exact congrArg Dat.bool (Bool.eq_iff_iff.2 (by simp only [decide_eq_true_eq,Bool.or_eq_true,sR,wG,Ae,eq_self,true_iff,Bool.false_eq_true,false_iff];omega))
theorem GM (r:Int):Ret P0 xe [.int .i32 r] (.bool (Ae r)):=by
 refine az Dt rfl ?_
 repeat' first|refine aw ?_|refine bw (fun _=>?_) fun _=>?_
 all_goals
  refine ak (P:=P0) rfl rfl rfl rfl ?_;exact congrArg Dat.bool (Bool.eq_iff_iff.2 (by simp only [decide_eq_true_eq,Bool.or_eq_true,sR,wG,Ae,eq_self,true_iff,Bool.false_eq_true,false_iff];omega))
theorem Ek (r:Int):Ret P0 mg [.int .i32 r] (.bool (sR r||wG r||decide (r=95))):=by
 have h1:=qn r;have h2:=xp r;refine az tj rfl ?_
 repeat' first|refine aw ?_|refine bw (fun _=>?_) fun _=>?_
 all_goals
  refine ak (P:=P0) rfl rfl rfl rfl ?_;exact congrArg Dat.bool (Bool.eq_iff_iff.2 (by simp only [decide_eq_true_eq,Bool.or_eq_true,sR,wG,Ae,eq_self,true_iff,Bool.false_eq_true,false_iff];omega))
theorem Af (r:Int):Ret P0 jU [.int .i32 r] (.bool (sR r||decide (r=95))):=by
 have h1:=qn r;refine az qz rfl ?_
 repeat' first|refine aw ?_|refine bw (fun _=>?_) fun _=>?_
 all_goals
  refine ak (P:=P0) rfl rfl rfl rfl ?_;exact congrArg Dat.bool (Bool.eq_iff_iff.2 (by simp only [decide_eq_true_eq,Bool.or_eq_true,sR,wG,Ae,eq_self,true_iff,Bool.false_eq_true,false_iff];omega))
theorem qo (f:FuncId) (p:Int->Bool) (hb:nJ P0 f) (hf:∀r,Ret P0 f [.int .i32 r] (.bool (p r))) (hp:∀r,128<=r->p r=false) (s:List UInt8) (hs:s.length<1000000):Ret P0 kq [.str s,.func f] (I ((s.takeWhile (fun b=>p (b.toNat:Int))).length:Nat)):=by
 refine az FB rfl ?_
 repeat' first|refine aw ?_|refine bw (fun _=>?_) fun _=>?_
 refine dG (fun k:Nat=>⟨[(8,.hnd 0),(0,.d (.str s)),(1,.d (.func f))],[(0,.iter s k)],1,[],0⟩)
  (fun k=>k<=s.length/\∀(i:Nat) (hi:i<s.length),i<k->p (s[i].toNat:Int)=true) (fun k=>s.length - k) 0 (by exact Uw.wW) ⟨by omega,by intros;omega⟩ ?_
 rintro k ⟨h1,h2⟩;by_cases hk:k<s.length
 ·have hk' : s[k]? = some s[k]:=by simp [hk]
  have stop:p (s[k].toNat:Int)=false->(s.takeWhile (fun b=>p (b.toNat:Int))).length=k:=fun h=>vE _ s k h1 h2 (fun b hb=>by rw [hk'] at hb;injection hb with hb;rw [<- hb];exact h);by_cases hlow:s[k].toNat<128
  ·have hr:=tN s k s[k] hk' hlow
   have hr1:((bP s k).1:Int)=s[k].toNat:=by rw [hr]
   have hr2:(bP s k).2=1:=by rw [hr]
   have hfr:=hf ((bP s k).1:Int);rw [show p ((bP s k).1:Int)=p (s[k].toNat:Int) by rw [hr1]] at hfr;have hk1:k+(bP s k).2=k+1:=by rw [hr2]
   clear hr hr1
   cases hpk:p (s[k].toNat:Int) with
   | false=>
    rw [hpk] at hfr;have hst:=stop hpk;clear stop h2
    repeat' first|refine aw ?_|refine bw (fun _=>?_) fun _=>?_
    refine iq _ hb rfl hfr ?_
    repeat' first|refine aw ?_|refine bw (fun _=>?_) fun _=>?_
    exact ak (P:=P0) rfl rfl rfl rfl (by rw [hst];rfl)
   | true=>
    rw [hpk] at hfr;have h3:∀(i:Nat) (hi:i<s.length),i<k+(bP s k).2->p (s[i].toNat:Int)=true:=by
     intro i hi hik;by_cases e:i=k
     ·subst e;exact hpk
     ·exact h2 i hi (by omega)
    clear stop h2
    repeat' first|refine aw ?_|refine bw (fun _=>?_) fun _=>?_
    refine iq _ hb rfl hfr ?_
    repeat' first|refine aw ?_|refine bw (fun _=>?_) fun _=>?_
    exact cv (k+(bP s k).2) ⟨by omega,h3⟩ (by omega) (by exact Uw.wW)
  ·obtain ⟨a1,a2,a3,a4,a5⟩:=wR s k s[k] hk' (by omega)
   have hfr:=hf ((bP s k).1:Int);rw [hp _ (by omega)] at hfr;have hst:=stop (hp _ (by omega));clear stop h2 a5
   repeat' first|refine aw ?_|refine bw (fun _=>?_) fun _=>?_
   refine iq _ hb rfl hfr ?_
   repeat' first|refine aw ?_|refine bw (fun _=>?_) fun _=>?_
   exact ak (P:=P0) rfl rfl rfl rfl (by rw [hst];rfl)
 ·have hst:(s.takeWhile (fun b=>p (b.toNat:Int))).length=s.length:=by
   have e:k=s.length:=by omega
   exact vE _ s s.length (Nat.le_refl _) (fun j hj _=>h2 j hj (by omega)) (fun b hb=>by rw [List.getElem?_eq_none (Nat.le_refl _)] at hb;cases hb)
  clear h2
  repeat' first|refine aw ?_|refine bw (fun _=>?_) fun _=>?_
  exact ak (P:=P0) rfl rfl rfl rfl (by rw [hst];rfl)
end Uw.Tryz
namespace Uw.Tryz
open Go Uw Go.Proofs Go.RowKit
theorem xq:∀(l:List UInt8) (n:Nat),l.all ft=true->Lib.decFrom n l=some (l.foldl (fun n b=>10 * n+(b.toNat - 48)) n)
 | [],n,_=>rfl
 | b::r,n,h=>by
  rw [List.all_cons,Bool.and_eq_true] at h;have hb:=uq h.1;rw [Lib.decFrom,Lib.digitVal,if_pos hb];simp only;rw [xq r _ h.2,List.foldl_cons,Nat.mul_comm]
theorem Nj (l:List UInt8) (h0:l≠[]) (h:l.all ft=true):Lib.atoi l=some (qB l:Nat):=by
 cases l with
 | nil=>exact absurd rfl h0
 | cons b r=>
  have hb:=uq (by rw [List.all_cons,Bool.and_eq_true] at h;exact h.1);have h1:(b == 45)=false:=by
   rw [beq_eq_false_iff_ne];intro e;subst e;simp at hb
  have h2:(b == 43)=false:=by
   rw [beq_eq_false_iff_ne];intro e;subst e;simp at hb
  rw [Lib.atoi,h1,h2];simp only [Bool.false_eq_true,if_false];rw [Lib.decNat,xq _ _ h];rfl
theorem Ag (l:List UInt8) (h0:l≠[]) (h:l.all ft=true) (hl:l.length<=18):Ret P0 zc [.str l] (.tuple [I (qB l:Nat),.nilIface]):=by
 intro w J vs hG hr;obtain ⟨v,vs',rfl,hv,hr⟩:=hr;simp only [aX] at hr;subst hr;simp only [aE] at hv;subst hv;refine (Tryz.strconv_Atoi ⟨l.toArray⟩ (qB l:Nat) (by simpa [ByteArray.size] using hl) (by simpa using Nj l h0 h) w).mono ?_;rintro e w' ⟨rfl,t,rfl⟩;exact ⟨_,rfl,⟨[_,_],rfl,⟨_,_,rfl,rfl,⟨_,_,rfl,rfl,rfl⟩⟩⟩,Lib.bytesWorld_below _ _ _⟩
theorem sS (s p:List UInt8):Ret P0 sx [.str s,.str p] (.bool (Lib.hasPrefix s p)):=by
 intro w J vs hG hr;obtain ⟨v,vs',rfl,hv,u,vs'',rfl,hu,hr⟩:=hr;simp only [aX] at hr;subst hr;simp only [aE] at hv hu;subst hv hu;refine (Tryz.strings_HasPrefix ⟨s.toArray⟩ ⟨p.toArray⟩ w).mono ?_;rintro e w' ⟨rfl,rfl⟩;exact ⟨_,rfl,rfl,Below.refl _ _⟩
theorem sT (s:List UInt8) (c:UInt8):Ret P0 sy [.str s,.int .u8 (c.toNat:Int)] (I (Lib.indexByte s c)):=by
 intro w J vs hG hr;obtain ⟨v,vs',rfl,hv,u,vs'',rfl,hu,hr⟩:=hr;simp only [aX] at hr;subst hr;simp only [aE] at hv hu;subst hv hu;refine (Tryz.strings_IndexByte ⟨s.toArray⟩ (c.toNat:Int) w).mono ?_;rintro e w' ⟨rfl,rfl⟩;refine ⟨_,rfl,?_,Below.refl _ _⟩;simp [aE]
theorem xr (l:List UInt8) (h0:l≠[]) (h:l.all ft=true) (hl:l.length<=18):Ret P0 xg [.str l] (I (qB l:Nat)):=by
 have ha:=Ag l h0 h hl;clear h h0;refine az Dx rfl ?_
 repeat' first|refine aw ?_|refine bw (fun _=>?_) fun _=>?_
 exact ak (P:=P0) rfl rfl rfl rfl rfl
end Uw.Tryz
namespace Uw.Tryz
open Go Uw Go.Proofs Go.RowKit
theorem Ah (b:UInt8):sR (b.toNat:Int)=decide (cls b=1):=by
 refine Bool.eq_iff_iff.2 ?_;simp only [sR,decide_eq_true_eq];unfold cls;constructor
 ·intro h;rw [if_pos (by omega)]
 ·intro h
  split at h
  ·omega
  ·repeat' split at h
   all_goals omega
theorem GN (b:UInt8):wG (b.toNat:Int)=decide (cls b=2):=by
 refine Bool.eq_iff_iff.2 ?_;simp only [wG,decide_eq_true_eq];unfold cls;constructor
 ·intro h;rw [if_neg (by omega),if_pos (by omega)]
 ·intro h
  repeat' split at h
  all_goals omega
theorem Jd (b:UInt8):decide ((b.toNat:Int)=95)=decide (cls b=3):=by
 refine Bool.eq_iff_iff.2 ?_;simp only [decide_eq_true_eq];unfold cls;constructor
 ·intro h;rw [if_neg (by omega),if_neg (by omega),if_pos (by omega)]
 ·intro h
  repeat' split at h
  all_goals omega
theorem Nk (b:UInt8):Ae (b.toNat:Int)=decide (cls b=4):=by
 refine Bool.eq_iff_iff.2 ?_;simp only [Ae,decide_eq_true_eq];unfold cls;constructor
 ·intro h;rw [if_neg (by omega),if_neg (by omega),if_neg (by omega),if_pos (by omega)]
 ·intro h
  repeat' split at h
  all_goals omega
theorem J9 (s:List UInt8) (hs:s.length<1000000):Ret P0 kq [.str s,.func mf] (I ((s.takeWhile (fun b=>decide (cls b=1))).length:Nat)):=by
 have:=qo mf sR ti.body qn (fun r hr=>by simp [sR];omega) s hs;simpa only [Ah] using this
theorem Nl (s:List UInt8) (hs:s.length<1000000):Ret P0 kq [.str s,.func oc] (I ((s.takeWhile ft).length:Nat)):=by
 have:=qo oc wG u9.body xp (fun r hr=>by simp [wG];omega) s hs;simp only [GN] at this;exact this
theorem Qp (s:List UInt8) (hs:s.length<1000000):Ret P0 kq [.str s,.func mg] (I ((s.takeWhile nameB).length:Nat)):=by
 have:=qo mg (fun r=>sR r||wG r||decide (r=95)) tj.body Ek (fun r hr=>by simp [sR,wG];omega) s hs;simp only [Ah,GN,Jd] at this;exact this
theorem Ko (s:List UInt8) (hs:s.length<1000000):Ret P0 kq [.str s,.func jU] (I ((s.takeWhile (fun b=>decide (cls b=1)||decide (cls b=3))).length:Nat)):=by
 have:=qo jU (fun r=>sR r||decide (r=95)) qz.body Af (fun r hr=>by simp [sR];omega) s hs;simp only [Ah,Jd] at this;exact this
def jq (r:List UInt8):Nat:=match bQ r with|some (k,n,_)=>if k=1 then n else 0|none=>0
def kg (r:List UInt8):Nat:=match bQ r with|some (k,n,_)=>if k=2 then n else 0|none=>0
def nw (r:List UInt8):Nat:=match bQ r with|some (k,n,_)=>if k=3 then n else 0|none=>0
theorem Kp (c:UInt8) (t:List UInt8) (h:cls c≠1):jq (c::t)=0:=by
 rw [jq];by_cases h2:cls c=2
 ·rw [nu c t h2];split
  ·rename_i h3;split at h3
   ·simp at h3;simp [<- h3.1]
   ·cases h3
  ·rfl
 ·by_cases h5:cls c=5
  ·rw [lr c t h5];rfl
  ·rw [iF c t h h2 h5]
theorem H4 (c:UInt8) (t:List UInt8) (h:cls c=1):jq (c::t)=if endOf (c::t)<=12 then endOf (c::t) else 0:=by
 rw [jq,lq c t h];by_cases h2:endOf (c::t)<=12
 ·rw [if_pos h2,if_pos h2];rfl
 ·rw [if_neg h2,if_neg h2]
theorem H5 (c:UInt8) (t:List UInt8) (hs:(c::t).length<1000000):Ret P0 gV [.str (c::t)] (I (jq (c::t))):=by
 have h1:=J9 (c::t) hs;have h2:=Qp (c::t) hs;by_cases h:cls c=1
 ·have e1:0<((c::t).takeWhile (fun b=>decide (cls b=1))).length:=by rw [List.takeWhile_cons,if_pos (by simp [h])];simp
  have e2:((c::t).takeWhile nameB).length=endOf (c::t):=by rw [List.takeWhile_cons,if_pos (by simp [nameB,h])];simp [endOf,h];omega
  have e3:=H4 c t h;rw [e2] at h2;generalize endOf (c::t)=E at *;generalize ((c::t).takeWhile (fun b=>decide (cls b=1))).length=A at *;generalize jq (c::t)=R at *;clear e2;generalize c::t=s at *;by_cases hE:E<=12
  ·rw [if_pos hE] at e3
   subst e3;refine az kQ rfl ?_
   repeat' first|refine aw ?_|refine bw (fun _=>?_) fun _=>?_
   exact ak (P:=P0) rfl rfl rfl rfl rfl
  ·rw [if_neg hE] at e3
   subst e3;refine az kQ rfl ?_
   repeat' first|refine aw ?_|refine bw (fun _=>?_) fun _=>?_
   exact ak (P:=P0) rfl rfl rfl rfl rfl
 ·have e1:((c::t).takeWhile (fun b=>decide (cls b=1))).length=0:=by rw [List.takeWhile_cons,if_neg (by simp [h])];rfl
  rw [e1] at h1;have e3:=Kp c t h;rw [e3];clear h2 e1 e3 h;generalize c::t=s at *;refine az kQ rfl ?_
  repeat' first|refine aw ?_|refine bw (fun _=>?_) fun _=>?_
  exact ak (P:=P0) rfl rfl rfl rfl rfl
theorem Nn (c:UInt8) (t:List UInt8) (h:cls c≠2):kg (c::t)=0:=by
 rw [kg];by_cases h2:cls c=1
 ·rw [lq c t h2];split
  ·rename_i h3;split at h3
   ·simp at h3;simp [<- h3.1]
   ·cases h3
  ·rfl
 ·by_cases h5:cls c=5
  ·rw [lr c t h5];rfl
  ·rw [iF c t h2 h h5]
theorem Kq (c:UInt8) (t:List UInt8) (h:cls c=2):kg (c::t)=if 0<=xX ((c::t).take (endOf (c::t)))/\E4 ((c::t).drop (endOf (c::t)))=false then endOf (c::t) else 0:=by
 rw [kg,nu c t h];by_cases h2:0<=xX ((c::t).take (endOf (c::t)))/\E4 ((c::t).drop (endOf (c::t)))=false
 ·rw [if_pos h2,if_pos h2];rfl
 ·rw [if_neg h2,if_neg h2]
theorem Qq (r:List UInt8):E4 r=decide (0<(r.takeWhile (fun b=>decide (cls b=1)||decide (cls b=3))).length):=by
 cases r with
 | nil=>rfl
 | cons b t=>
  rw [E4,List.takeWhile_cons]
  cases decide (cls b=1)||decide (cls b=3)<;>simp
theorem Em (c:UInt8) (t:List UInt8) (hs:(c::t).length<1000000):Ret P0 eV [.str (c::t)] (I (kg (c::t))):=by
 have h1:=Nl (c::t) hs;by_cases h:cls c=2
 ·have e1:((c::t).takeWhile ft).length=endOf (c::t):=by rw [List.takeWhile_cons,if_pos (by simp [ft,h])];simp [endOf,h];omega
  have hall:=Jc c t h;have hle:=GL c t;have e3:=Kq c t h;rw [e1] at h1;have hl0:(c::t).length=t.length+1:=rfl;have hc0:∀hp:0<(c::t).length,(c::t)[0]'hp=c:=fun _=>rfl;have hhd:((c::t).take (endOf (c::t))).head? = some 48<->c.toNat=48:=by
   rw [vF c t h,Jb _ (by simp)];rfl
  have h0:0<(c::t).length:=by simp
  generalize endOf (c::t)=E at *;clear e1;generalize kg (c::t)=R at *;generalize c::t=s at *;have hc0:=congrArg UInt8.toNat (hc0 h0);have hwl:(s.take E).length=E:=by simp;omega
  have hsp:=Ko ((s.take s.length).drop E) (by simp;omega);have hlt:=Qq (s.drop E);have e5:(s.take s.length).drop E=s.drop E:=by rw [List.take_length]
  rw [<- e5] at e3 hlt;generalize E4 ((s.take s.length).drop E)=L at *;generalize (((s.take s.length).drop E).takeWhile (fun b=>decide (cls b=1)||decide (cls b=3))).length=A at *;have hnr:xX (s.take E)=if 10<E\/(c.toNat=48/\1<E) then -1 else if 4294967296<=qB (s.take E) then -1 else ((qB (s.take E):Nat):Int):=by
   rw [xX,hwl];simp only [hhd]
  by_cases hb:10<E\/(c.toNat=48/\1<E)
  ·rw [if_pos hb] at hnr
   rw [if_neg (by rintro ⟨q,_⟩;omega)] at e3;subst e3;clear hsp hlt hall hhd e5 hnr;refine az eZ rfl ?_
   repeat' first|refine aw ?_|refine bw (fun _=>?_) fun _=>?_
   all_goals exact ak (P:=P0) rfl rfl rfl rfl rfl
  ·rw [if_neg hb] at hnr
   have hv:=xr ((s.take E).drop 0) (by rw [List.drop_zero];intro e;rw [e] at hwl;simp at hwl;omega) (by rw [List.drop_zero];exact hall) (by rw [List.drop_zero,hwl];omega);rw [show qB ((s.take E).drop 0)=qB (s.take E) by rw [List.drop_zero]] at hv;generalize qB (s.take E)=V at *;by_cases hA:0<A
   ·rw [decide_eq_true hA] at hlt
    rw [if_neg (by rintro ⟨_,q⟩;rw [hlt] at q;cases q)] at e3;subst e3;clear hall hhd e5 hnr;refine az eZ rfl ?_
    repeat' first|refine aw ?_|refine bw (fun _=>?_) fun _=>?_
    all_goals exact ak (P:=P0) rfl rfl rfl rfl rfl
   ·rw [decide_eq_false hA] at hlt
    by_cases hV:4294967296<=V
    ·rw [if_pos hV] at hnr
     rw [if_neg (by rintro ⟨q,_⟩;omega)] at e3;subst e3;clear hall hhd e5 hnr hlt;refine az eZ rfl ?_
     repeat' first|refine aw ?_|refine bw (fun _=>?_) fun _=>?_
     all_goals exact ak (P:=P0) rfl rfl rfl rfl rfl
    ·rw [if_neg hV] at hnr
     rw [if_pos ⟨by omega,hlt⟩] at e3;subst e3;clear hall hhd e5 hnr hlt;refine az eZ rfl ?_
     repeat' first|refine aw ?_|refine bw (fun _=>?_) fun _=>?_
     all_goals exact ak (P:=P0) rfl rfl rfl rfl rfl
 ·have e1:((c::t).takeWhile ft).length=0:=by rw [List.takeWhile_cons,if_neg (by simp [ft,h])];rfl
  rw [e1] at h1;rw [Nn c t h];clear e1 h;generalize c::t=s at *;refine az eZ rfl ?_
  repeat' first|refine aw ?_|refine bw (fun _=>?_) fun _=>?_
  exact ak (P:=P0) rfl rfl rfl rfl rfl
end Uw.Tryz
namespace Uw.Tryz
open Go Uw Go.Proofs Go.RowKit
def En:List UInt8:=[40,41,123,125,44,59,46,61,43,45,42,60]
theorem Kr:∀n:Fin 256,decide (0<=Lib.indexByte En (UInt8.ofNat n.val))=decide (cls (UInt8.ofNat n.val)=5):=by decide +kernel
theorem Ks (c:UInt8):0<=Lib.indexByte En c<->cls c=5:=by
 have h:=Kr ⟨c.toNat,c.toNat_lt⟩;simp only [UInt8.ofNat_toNat] at h;exact decide_eq_decide.1 h
theorem H6 (c:UInt8) (t:List UInt8):Lib.hasPrefix (c::t) [61,61]=(decide (c.toNat=61)&&eqq t):=by
 have key:∀b:UInt8,(61 == b)=decide (b.toNat=61):=by
  intro b;rw [Bool.eq_iff_iff,beq_iff_eq,decide_eq_true_eq];exact ⟨fun h=>by rw [<- h];rfl,fun h=>(UInt8.toNat_inj.1 (by rw [h];rfl)).symm⟩
 rw [Lib.hasPrefix]
 cases t with
 | nil=>simp [List.isPrefixOf,eqq]
 | cons b r=>simp only [List.isPrefixOf,eqq,key,Bool.and_true]
theorem BW (c:UInt8) (t:List UInt8) (h:cls c=5):nw (c::t)=endOf (c::t):=by rw [nw,lr c t h];rfl
theorem Np (c:UInt8) (t:List UInt8) (h:cls c≠5):nw (c::t)=0:=by
 rw [nw];by_cases h1:cls c=1
 ·rw [lq c t h1];split
  ·rename_i h3;split at h3
   ·simp at h3;simp [<- h3.1]
   ·cases h3
  ·rfl
 ·by_cases h2:cls c=2
  ·rw [nu c t h2];split
   ·rename_i h3;split at h3
    ·simp at h3;simp [<- h3.1]
    ·cases h3
   ·rfl
  ·rw [iF c t h1 h2 h]
theorem H7 (c:UInt8) (t:List UInt8) (hs:(c::t).length<1000000):Ret P0 gW [.str (c::t)] (I (nw (c::t))):=by
 have h1:=sS (c::t) [61,61];have h2:=sT En c;rw [H6] at h1;have h3:=Ks c;have h0:0<(c::t).length:=by simp
 have hc0:∀hp:0<(c::t).length,(c::t)[0]'hp=c:=fun _=>rfl;have hc0:=hc0 h0;have he:cls c=5->(decide (c.toNat=61)&&eqq t)=true->nw (c::t)=2:=fun h h'=>by
  simp at h';rw [BW c t h,nr c t h,if_pos h']
 have he2:cls c=5->(decide (c.toNat=61)&&eqq t)=false->nw (c::t)=1:=fun h h'=>by
  rw [BW c t h,nr c t h,if_neg (by rintro ⟨q1,q2⟩;rw [decide_eq_true q1,q2] at h';cases h')]
 have he3:cls c≠5->nw (c::t)=0:=Np c t;have h61:(decide (c.toNat=61)&&eqq t)=true->cls c=5:=fun h=>by
  simp at h;have:c=61:=UInt8.toNat_inj.1 h.1;subst this;rfl
 generalize (decide (c.toNat=61)&&eqq t)=q at *;generalize nw (c::t)=R at *;generalize Lib.indexByte En c=X at *;by_cases h5:cls c=5
 ·have hX:0<=X:=h3.2 h5
  cases q with
  | true=>
   have he:=he h5 rfl;subst he;clear h2 h3 hX he2 he3 h61 hc0;generalize c::t=s at *;refine az kR rfl ?_
   repeat' first|refine aw ?_|refine bw (fun _=>?_) fun _=>?_
   exact ak (P:=P0) rfl rfl rfl rfl rfl
  | false=>
   have he:=he2 h5 rfl;subst he;clear he2 he3 h61;rw [<- hc0] at h2;clear hc0 h3;generalize c::t=s at *;refine az kR rfl ?_
   repeat' first|refine aw ?_|refine bw (fun _=>?_) fun _=>?_
   exact ak (P:=P0) rfl rfl rfl rfl rfl
 ·have hX:¬0<=X:=fun h=>h5 (h3.1 h)
  have he:=he3 h5;subst he
  cases q with
  | true=>exact absurd (h61 rfl) h5
  | false=>
   clear he2 he3 h61;rw [<- hc0] at h2;clear hc0 h3;generalize c::t=s at *;refine az kR rfl ?_
   repeat' first|refine aw ?_|refine bw (fun _=>?_) fun _=>?_
   exact ak (P:=P0) rfl rfl rfl rfl rfl
def lF (r:List UInt8):Tok×Bool:=match bQ r with|none=>(⟨0,[],0,0⟩,false)|some (k,n,v)=>(⟨k,r.take n,v,0⟩,true)
def Nq (x:Tok×Bool):Dat:=.tuple [.agg (rc x.1),.bool x.2]
def Nr:Dat:=.slice 2 [[I 1,.func gV],[I 2,.func eV],[I 3,.func gW]] false
theorem GQ {r:List UInt8} {k:Int} {n:Nat} {v:Int} (h:bQ r=some (k,n,v)) :
  (k=1/\v=0/\n<=12)\/(k=2/\v=(qB (r.take n):Nat)/\(r.take n).all ft=true/\n<=10/\v<4294967296)\/(k=3/\v=0/\n<=2):=by
 cases r with
 | nil=>simp [bQ] at h
 | cons c t=>
  by_cases h1:cls c=1
  ·rw [lq c t h1] at h
   split at h
   ·simp only [Option.some.injEq,Prod.mk.injEq] at h;omega
   ·cases h
  ·by_cases h2:cls c=2
   ·have ha:=Jc c t h2
    rw [nu c t h2] at h
    split at h
    ·rename_i hc
     simp only [Option.some.injEq,Prod.mk.injEq] at h;obtain ⟨q1,q2,q3⟩:=h;have hc:=hc.1;have hel:=GL c t;rw [q2] at ha hc q3 hel;have hl:((c::t).take n).length=n:=by simp;omega
     rw [xX] at q3 hc
     split at hc
     ·omega
     ·rename_i q4
      rw [if_neg q4] at q3
      split at hc
      ·omega
      ·rename_i q5
       rw [if_neg q5] at q3;right;left;exact ⟨q1.symm,q3.symm,ha,by omega,by omega⟩
    ·cases h
   ·by_cases h5:cls c=5
    ·rw [lr c t h5] at h
     simp only [Option.some.injEq,Prod.mk.injEq] at h;have:=nr c t h5
     split at this<;>omega
    ·rw [iF c t h1 h2 h5] at h;cases h
theorem GR (r:List UInt8):(jq r≠0->lF r=(⟨1,r.take (jq r),0,0⟩,true)/\jq r<=r.length)/\
  (jq r=0->kg r≠0->lF r=(⟨2,r.take (kg r),(qB (r.take (kg r)):Nat),0⟩,true)/\(r.take (kg r)).all ft=true/\kg r<=10/\kg r<=r.length)/\
  (jq r=0->kg r=0->nw r≠0->lF r=(⟨3,r.take (nw r),0,0⟩,true)/\nw r<=r.length)/\(jq r=0->kg r=0->nw r=0->lF r=(⟨0,[],0,0⟩,false)):=by
 rw [jq,kg,nw,lF]
 cases h:bQ r with
 | none=>simp
 | some x=>
  obtain ⟨k,n,v⟩:=x;have hn:=mE h
  rcases GQ h with ⟨rfl,rfl,_⟩|⟨rfl,rfl,h2,h3,_⟩|⟨rfl,rfl,_⟩
  ·simp only [if_true]
   exact ⟨fun _=>⟨trivial,hn.2⟩,fun h=>by omega,fun h=>by omega,fun h=>by omega⟩
  ·simp only [show ¬(2:Int)=1 by omega,if_false,if_true]
   exact ⟨fun h=>by omega,fun _ _=>⟨trivial,h2,h3,hn.2⟩,fun _ h=>by omega,fun _ h=>by omega⟩
  ·simp only [show ¬(3:Int)=1 by omega,show ¬(3:Int)=2 by omega,if_false,if_true]
   exact ⟨fun h=>by omega,fun _ h=>by omega,fun _ _ _=>⟨trivial,hn.2⟩,fun _ _ h=>by omega⟩
theorem GU (c:UInt8) (t:List UInt8) (hs:(c::t).length<1000000):Ret P0 ru [Nr,.str (c::t)] (Nq (lF (c::t))):=by
 have h1:=H5 c t hs;have h2:=Em c t hs;have h3:=H7 c t hs;obtain ⟨f1,f2,f3,f4⟩:=GR (c::t);have hv:=fun (q:(jq (c::t)=0/\kg (c::t)≠0))=>xr (((c::t).take (kg (c::t))).drop 0) (by rw [List.drop_zero];intro e;have:=congrArg List.length e;rw [List.length_take] at this;have:=(f2 q.1 q.2).2.2.2;simp at *;omega) (by rw [List.drop_zero];exact (f2 q.1 q.2).2.1) (by rw [List.drop_zero,List.length_take];have:=(f2 q.1 q.2).2.2.1;omega);simp only [List.drop_zero] at hv;generalize jq (c::t)=A at *;generalize kg (c::t)=B at *;generalize nw (c::t)=C at *;generalize lF (c::t)=R at *;generalize c::t=s at *;refine az Du rfl ?_
 repeat' first|refine aw ?_|refine bw (fun _=>?_) fun _=>?_
 refine dG (fun k:Nat=>⟨[(12,.d (I k)),(11,.d (I (↑[[I 1,Dat.func gV],[I 2,Dat.func eV],[I 3,Dat.func gW]].length))),(10,.d Nr),(4,.ptr 0 0),(1,.d (.str s))],[(0,.var [.d (I 0),.d (.str []),.d (I 0),.d (I 0)])],1,[],0⟩)
  (fun k=>k<=3/\(1<=k->A=0)/\(2<=k->B=0)/\(3<=k->C=0)) (fun k=>3 - k) 0 (by exact Uw.wW) (by omega) ?_
 rintro k ⟨k1,k2,k3,k4⟩;have hk:k=0\/k=1\/k=2\/k=3:=by omega
 rcases hk with rfl|rfl|rfl|rfl
 ·by_cases hA:A=0
  ·clear f1 f2 f3 f4 hv
   subst hA
   repeat' first|refine aw ?_|refine bw (fun _=>?_) fun _=>?_
   refine dW _ rfl ?_
   repeat' first|refine aw ?_|refine bw (fun _=>?_) fun _=>?_
   refine iq _ kQ.body rfl h1 ?_
   repeat' first|refine aw ?_|refine bw (fun _=>?_) fun _=>?_
   exact cv 1 (by omega) (by omega) (by exact Uw.wW)
  ·obtain ⟨e,hle⟩:=f1 hA
   subst e;clear f1 f2 f3 f4 hv
   repeat' first|refine aw ?_|refine bw (fun _=>?_) fun _=>?_
   refine dW _ rfl ?_
   repeat' first|refine aw ?_|refine bw (fun _=>?_) fun _=>?_
   refine iq _ kQ.body rfl h1 ?_
   repeat' first|refine aw ?_|refine bw (fun _=>?_) fun _=>?_
   refine bZ ⟨[(7,.ptr 1 0),(9,.ptr 2 0),(4,.ptr 0 0)],[(2,.var [.d (I 1),.d (.str ((s.take A).drop 0)),.d (I 0),.d (I 0)]),(1,.var [.d (I 1),.d (.func gV)]),(0,.var [.d (I 0),.d (.str []),.d (I 0),.d (I 0)])],3,[],0⟩ ?_ ?_
   ·repeat' first|refine aw ?_|refine bw (fun _=>?_) fun _=>?_
    exact aY (.inl ⟨rfl,by exact Uw.wW⟩)
   ·repeat' first|refine aw ?_|refine bw (fun _=>?_) fun _=>?_
    exact bj (ak (P:=P0) rfl rfl rfl rfl rfl)
 ·have hA:=k2 (by omega)
  by_cases hB:B=0
  ·clear f1 f2 f3 f4 hv
   subst hB
   repeat' first|refine aw ?_|refine bw (fun _=>?_) fun _=>?_
   refine dW _ rfl ?_
   repeat' first|refine aw ?_|refine bw (fun _=>?_) fun _=>?_
   refine iq _ eZ.body rfl h2 ?_
   repeat' first|refine aw ?_|refine bw (fun _=>?_) fun _=>?_
   exact cv 2 (by omega) (by omega) (by exact Uw.wW)
  ·obtain ⟨e,q1,q2,hle⟩:=f2 hA hB
   have hv:=hv ⟨hA,hB⟩;subst e;clear f1 f2 f3 f4
   repeat' first|refine aw ?_|refine bw (fun _=>?_) fun _=>?_
   refine dW _ rfl ?_
   repeat' first|refine aw ?_|refine bw (fun _=>?_) fun _=>?_
   refine iq _ eZ.body rfl h2 ?_
   repeat' first|refine aw ?_|refine bw (fun _=>?_) fun _=>?_
   refine bZ ⟨[(7,.ptr 1 0),(9,.ptr 2 0),(4,.ptr 0 0)],[(2,.var [.d (I 2),.d (.str ((s.take B).drop 0)),.d (I 0),.d (I 0)]),(1,.var [.d (I 2),.d (.func eV)]),(0,.var [.d (I 0),.d (.str []),.d (I 0),.d (I 0)])],3,[],0⟩ ?_ ?_
   ·repeat' first|refine aw ?_|refine bw (fun _=>?_) fun _=>?_
    exact aY (.inl ⟨rfl,by exact Uw.wW⟩)
   ·repeat' first|refine aw ?_|refine bw (fun _=>?_) fun _=>?_
    exact bj (ak (P:=P0) rfl rfl rfl rfl rfl)
 ·have hA:=k2 (by omega)
  have hB:=k3 (by omega);by_cases hC:C=0
  ·clear f1 f2 f3 f4 hv
   subst hC
   repeat' first|refine aw ?_|refine bw (fun _=>?_) fun _=>?_
   refine dW _ rfl ?_
   repeat' first|refine aw ?_|refine bw (fun _=>?_) fun _=>?_
   refine iq _ kR.body rfl h3 ?_
   repeat' first|refine aw ?_|refine bw (fun _=>?_) fun _=>?_
   exact cv 3 (by omega) (by omega) (by exact Uw.wW)
  ·obtain ⟨e,hle⟩:=f3 hA hB hC
   subst e;clear f1 f2 f3 f4 hv
   repeat' first|refine aw ?_|refine bw (fun _=>?_) fun _=>?_
   refine dW _ rfl ?_
   repeat' first|refine aw ?_|refine bw (fun _=>?_) fun _=>?_
   refine iq _ kR.body rfl h3 ?_
   repeat' first|refine aw ?_|refine bw (fun _=>?_) fun _=>?_
   refine bZ ⟨[(7,.ptr 1 0),(9,.ptr 2 0),(4,.ptr 0 0)],[(2,.var [.d (I 3),.d (.str ((s.take C).drop 0)),.d (I 0),.d (I 0)]),(1,.var [.d (I 3),.d (.func gW)]),(0,.var [.d (I 0),.d (.str []),.d (I 0),.d (I 0)])],3,[],0⟩ ?_ ?_
   ·repeat' first|refine aw ?_|refine bw (fun _=>?_) fun _=>?_
    exact aY (.inl ⟨rfl,by exact Uw.wW⟩)
   ·repeat' first|refine aw ?_|refine bw (fun _=>?_) fun _=>?_
    exact bj (ak (P:=P0) rfl rfl rfl rfl rfl)
 ·have hA:=k2 (by omega)
  have hB:=k3 (by omega);have hC:=k4 (by omega);have e:=f4 hA hB hC;subst e;clear f1 f2 f3 f4 hv k2 k3 k4
  repeat' first|refine aw ?_|refine bw (fun _=>?_) fun _=>?_
  exact ak (P:=P0) rfl rfl rfl rfl rfl
end Uw.Tryz
namespace Uw.Tryz
open Go Uw Go.Proofs Go.RowKit
theorem xu {r:List UInt8} (h:bQ r=none):lF r=(⟨0,[],0,0⟩,false):=by rw [lF,h]
theorem GV {r:List UInt8} {k:Int} {n:Nat} {v:Int} (h:bQ r=some (k,n,v)):lF r=(⟨k,r.take n,v,0⟩,true):=by rw [lF,h]
theorem Kt {b:UInt8} (h:nameB b=true):b.toNat<128:=by
 simp only [nameB,Bool.or_eq_true,decide_eq_true_eq] at h;unfold cls at h
 repeat' split at h
 all_goals omega
theorem yg {b:UInt8} (h:cls b≠0):b.toNat<128:=by
 unfold cls at h
 repeat' split at h
 all_goals omega
theorem tt {α:Type} (p:α->Bool) (l:List α):∀x∈l.takeWhile p,p x=true:=List.all_eq_true.1 (all_takeWhile p l)
theorem Qr {r:List UInt8} {k:Int} {n:Nat} {v:Int} (h:bQ r=some (k,n,v)):∀b∈r.take n,b.toNat<128:=by
 cases r with
 | nil=>simp [bQ] at h
 | cons c t=>
  by_cases h1:cls c=1
  ·rw [lq c t h1] at h
   have e:endOf (c::t)=1+(t.takeWhile nameB).length:=by simp [endOf,h1]
   split at h
   ·simp only [Option.some.injEq,Prod.mk.injEq] at h
    rw [<- h.2.1,e,Nat.add_comm,List.take_succ_cons,take_takeWhile];intro b hb
    rcases List.mem_cons.1 hb with rfl|hb
    ·exact yg (by omega)
    ·exact Kt (tt _ _ b hb)
   ·cases h
  ·by_cases h2:cls c=2
   ·have hd:=vF c t h2
    rw [nu c t h2] at h
    split at h
    ·simp only [Option.some.injEq,Prod.mk.injEq] at h
     rw [<- h.2.1,hd];intro b hb
     rcases List.mem_cons.1 hb with rfl|hb
     ·exact yg (by omega)
     ·have:=uq (tt _ _ b hb);omega
    ·cases h
   ·by_cases h5:cls c=5
    ·have he:=nr c t h5
     rw [lr c t h5] at h;simp only [Option.some.injEq,Prod.mk.injEq] at h;rw [<- h.2.1,he];intro b hb
     split at hb
     ·rename_i q
      cases t with
      | nil=>simp [eqq] at q
      | cons d u=>
       simp only [eqq,decide_eq_true_eq] at q;simp at hb
       rcases hb with rfl|rfl<;>omega
     ·simp at hb;subst hb;exact yg (by omega)
    ·rw [iF c t h1 h2 h5] at h;cases h
def Je (s:List UInt8) (k b:Nat):Prop:=∀i,k<=i->i<b->∀c,s[i]? = some c->c.toNat<128
theorem ou (s:List UInt8) (hs:s.length<1000000):Ret P0 wZ [.str s] (LS (fM s)):=by
 refine Ret.res (r:=A0 s) ?_ (Qn s);by_cases h4:4000<s.length
 ·have e:A0 s = .tuple [.nil,I 2]:=by rw [A0,if_pos h4]
  rw [e];refine az uV rfl ?_
  repeat' first|refine aw ?_|refine bw (fun _=>?_) fun _=>?_
  exact ak (P:=P0) rfl rfl rfl rfl rfl
 ·have bad:o7 s 0=none->A0 s = .tuple [.nil,I 3]:=fun h=>by rw [A0,if_neg h4,h]
  have good:∀l,o7 s 0=some l->A0 s = .tuple [uR l,I 0]:=fun l h=>by rw [A0,if_neg h4,h]
  generalize A0 s=R at bad good;refine az uV rfl ?_
  repeat' first|refine aw ?_|refine bw (fun _=>?_) fun _=>?_
  refine dG (fun ((k,b,n,xs):Nat×Nat×Nat×List (List Dat))=>⟨[(19,.hnd 0),(6,.d (I b)),(5,.ref 1 0 0 n),(4,.d (Dat.slice 2 ((((List.replicate 3 [Dat.int IntKind.i64 0,Dat.nilFunc]).set 0 [Dat.int IntKind.i64 1,Dat.func gV]).set 1 [Dat.int IntKind.i64 2,Dat.func eV]).set 2 [Dat.int IntKind.i64 3,Dat.func gW]) true)),(0,.d (.str s))],[(1,.arr 4 xs),(0,.iter s k)],2,[],0⟩)
   (fun (k,b,n,xs)=>k<=s.length/\b<=s.length/\n=xs.length/\n<=b/\n<=k/\Je s k b/\∃out,xs=out.map rc/\Read s (max k b) out) (fun (k,_)=>s.length - k) (0,0,0,[]) (by exact Uw.wW) ⟨by omega,by omega,rfl,by omega,by omega,by intro i h1 h2;omega,[],rfl,Read.init s⟩ ?_
  rintro ⟨k,b,n,xs⟩ ⟨h1,h2,h3,h3',WR,hlow,out,h5,h6⟩;by_cases hk:k<s.length
  ·have hk' : s[k]? = some s[k]:=by simp [hk]
   have hd:s.drop k=s[k]::s.drop (k+1):=List.drop_eq_getElem_cons hk;by_cases hkb:k<b
   ·have hl:=hlow k (Nat.le_refl _) hkb s[k] hk'
    have hr:=tN s k s[k] hk' hl;have hr2:(bP s k).2=1:=by rw [hr]
    clear hr;have hm:max (k+(bP s k).2) b=max k b:=by omega
    have h7:Read s (max (k+(bP s k).2) b) out:=by rw [hm];exact h6
    have hl2:Je s (k+(bP s k).2) b:=fun i q1 q2=>hlow i (by omega) q2;clear good bad h6 hd hlow
    repeat' first|refine aw ?_|refine bw (fun _=>?_) fun _=>?_
    exact cv (k+(bP s k).2,b,n,xs) ⟨by omega,h2,h3,h3',by omega,hl2,out,h5,h7⟩ (by simp only;omega) (by exact Uw.wW)
   ·have hm:max k b=k:=by omega
    rw [hm] at h6;have hbl:=GM ((bP s k).1:Int);have hfi:=(GU s[k] (s.drop (k+1)) (by rw [<- hd];simp;omega)).args (ds:=[.slice 2 [[I 1,.func gV],[I 2,.func eV],[I 3,.func gW]] true,.str (s[k]::s.drop (k+1))]) (.cons (.slice (.refl _)) (.refl _));rw [<- hd] at hfi;have Qs : Ret P0 ru [.slice 2 [[I 1,.func gV],[I 2,.func eV],[I 3,.func gW]] true,.str ((s.take s.length).drop k)] (Nq (lF (s.drop k))):=by rw [List.take_length];exact hfi
    clear hfi;by_cases hl:s[k].toNat<128
    ·have hr:=tN s k s[k] hk' hl
     have hr1:((bP s k).1:Int)=s[k].toNat:=by rw [hr]
     have hr2:(bP s k).2=1:=by rw [hr]
     clear hr;rw [show Ae ((bP s k).1:Int)=decide (cls s[k]=4) by rw [hr1,Nk]] at hbl;by_cases k4:cls s[k]=4
     ·rw [decide_eq_true k4] at hbl
      have h7:Read s (max (k+(bP s k).2) b) out:=by rw [hr2,show max (k+1) b=k+1 by omega];exact h6.blank hk k4
      have hl2:Je s (k+(bP s k).2) b:=fun i q1 q2=>by omega
      clear good bad h6 hd hlow Qs
      repeat' first|refine aw ?_|refine bw (fun _=>?_) fun _=>?_
      exact cv (k+(bP s k).2,b,n,xs) ⟨by omega,h2,h3,h3',by omega,hl2,out,h5,h7⟩ (by simp only;omega) (by exact Uw.wW)
     ·rw [decide_eq_false k4] at hbl
      cases ht:bQ (s.drop k) with
      | none=>
       rw [xu ht] at Qs;have hb:=bad (h6.none hk k4 ht);subst hb;clear good bad h6 hd hlow ht
       repeat' first|refine aw ?_|refine bw (fun _=>?_) fun _=>?_
       exact bj (ak (P:=P0) rfl rfl rfl rfl rfl)
      | some x=>
       obtain ⟨K,N,v⟩:=x;rw [GV ht] at Qs;have hn:=mE ht;have hlw:=Qr ht;have h8:=h6.tok hk k4 ht;have hN:k+N<=s.length:=by have:=hn.2;simp at this;omega
       have hxl:((s.drop k).take N).length=N:=Qo hN;have h7:Read s (max (k+(bP s k).2) (k+N)) (out++[⟨K,(s.drop k).take N,v,k⟩]):=by rw [hr2,show max (k+1) (k+N)=k+N by omega];exact h8
       have hl2:Je s (k+(bP s k).2) (k+N):=by
        intro i q1 q2 c hc;refine hlw c ?_;rw [List.mem_take_iff_getElem];refine ⟨i - k,by simp;have:=(List.getElem?_eq_some_iff.1 hc).1;omega,?_⟩;rw [List.getElem_drop];have:=(List.getElem?_eq_some_iff.1 hc).2;simp only [show k+(i - k)=i by omega];exact this
       generalize (s.drop k).take N=w at *;clear good bad h6 hd hlow ht h8 hlw;have hen:(k:Int)+(w.length:Int)=((k+N:Nat):Int):=by omega
       repeat' first|refine aw ?_|refine bw (fun _=>?_) fun _=>?_
       refine cv (k+(bP s k).2,k+N,n+1,xs++[[I K,.str w,I v,I k]]) ⟨by omega,hN,by simp [h3],by omega,by omega,hl2,out++[⟨K,w,v,k⟩],?_,h7⟩ (by simp only;omega) (by exact Uw.wW);rw [h5];simp [rc]
    ·obtain ⟨a1,a2,a3,a4,a5⟩:=wR s k s[k] hk' (by omega)
     have hc0:cls s[k]=0:=by
      by_cases h:cls s[k]=0
      ·exact h
      ·exact absurd (yg h) hl
     have ht:bQ (s.drop k)=none:=by rw [hd];exact iF _ _ (by omega) (by omega) (by omega)
     rw [show Ae ((bP s k).1:Int)=false by simp [Ae];omega] at hbl;rw [xu ht] at Qs;have hb:=bad (h6.none hk (by omega) ht);subst hb;clear good bad h6 hd hlow ht a5
     repeat' first|refine aw ?_|refine bw (fun _=>?_) fun _=>?_
     exact bj (ak (P:=P0) rfl rfl rfl rfl rfl)
  ·have hg:=good out (h6.end (by omega))
   subst hg;clear good bad h6 hlow
   repeat' first|refine aw ?_|refine bw (fun _=>?_) fun _=>?_
   exact ak (P:=P0) rfl rfl rfl rfl (by rw [RR h3 h5];rfl)
end Uw.Tryz
namespace Uw.Tryz
open Go Uw
def Ww (x:List Dec×List Fn):Dat:=.agg [.slice 3 (x.1.map cI) false,.slice 3 (gd x.2 0) false,.slice 5 ((cC x.2 0).map bW) false]
def noD:Dat:=.agg [.nil,.nil,.nil]
theorem Qu (h:Heap) (nx:Nat):CX P0 jS [.ptr 0 0,.ptr 1 0] h nx none (fun h' nx'=>h' = h/\nx' = nx):=by
 refine uN tg rfl ?_;refine Ou rfl ?_;exact aY ⟨.inl rfl,rfl,rfl,rfl⟩
theorem Ku (a b c d:V) (nx:Nat):CX P0 jS [.ptr 0 0,.ptr 1 0] [(0,.var [a,b,c]),(1,.var [d])] nx (some cT) (fun h' nx'=>h' = (1,.var [.d (I 3)])::(0,.var [.d .nil,.d .nil,.d .nil])::[(0,.var [a,b,c]),(1,.var [d])]/\nx' = nx):=by
 refine uN tg rfl ?_;refine RL rfl ?_;exact aY ⟨.inl rfl,rfl,rfl,rfl⟩
theorem Ai (s:List UInt8) (hs:s.length<1000000) (l:List Tok) (e:Int) (hw:fM s=(l,e)) (he:e≠0):Ret P0 eN [.str s] (.tuple [noD,I e]):=by
 have h1:=ou s hs;rw [hw] at h1;refine kE nU rfl ?_
 repeat' first|refine aw ?_|refine bw (fun _=>?_) fun _=>?_
 refine bZ ⟨[(3,.ptr 1 0),(2,.ptr 0 0)],[(1,.var [.d (I e)]),(0,.var [.d .nil,.d .nil,.d .nil])],2,[],0⟩ ?_ ?_
 ·repeat' first|refine aw ?_|refine bw (fun _=>?_) fun _=>?_
  exact aY (.inl ⟨rfl,by exact Uw.wW⟩)
 ·repeat' first|refine aw ?_|refine bw (fun _=>?_) fun _=>?_
  exact aY ⟨_,.inl rfl,.inl ⟨.inr rfl,rfl,_,_,rfl,rfl,rfl,rfl⟩⟩
theorem xY (s:List UInt8) (hs:s.length<1000000) (l:List Tok) (hl:l.length<1000000) (hw:fM s=(l,0)) (he:40<mX l 0 0):Ret P0 eN [.str s] (.tuple [noD,I 2]):=by
 have h1:=ou s hs;have h2:=oO l hl;rw [hw] at h1;generalize mX l 0 0=d at *;refine kE nU rfl ?_
 repeat' first|refine aw ?_|refine bw (fun _=>?_) fun _=>?_
 exact aY ⟨_,.inl rfl,.inl ⟨.inr rfl,rfl,_,_,rfl,rfl,rfl,rfl⟩⟩
theorem Aj (s:List UInt8) (hs:s.length<1000000) (l:List Tok) (hl:l.length<1000000) (hw:fM s=(l,0)) (he:mX l 0 0<=40) (hb:kP P0 ez [.ptr 0 0] (rdN l 0 []) cT):Ret P0 eN [.str s] (.tuple [noD,I 3]):=by
 have h1:=ou s hs;have h2:=oO l hl;rw [hw] at h1;generalize mX l 0 0=d at *;refine kE nU rfl ?_
 repeat' first|refine aw ?_|refine bw (fun _=>?_) fun _=>?_
 refine OP 3 [2] hb ?_;intro h0 n0
 ·refine aY ⟨⟨[(2,.ptr 0 0),(3,.ptr 1 0)],[(0,.var [.d .nil,.d .nil,.d .nil]),(1,.var [.d (I 0)])],2,_,0⟩,.inr (Weak.rest ?_ ?_ rfl rfl rfl),.inr ⟨some cT,jS,[],[.ptr 0 0,.ptr 1 0],.inr ⟨_,rfl,rfl⟩,rfl,?_⟩⟩
  ·intro p hp
   simp only [List.mem_cons,List.not_mem_nil,or_false] at hp
   rcases hp with rfl|rfl
   ·exact ⟨rfl,rfl,rfl⟩
   ·exact ⟨rfl,rfl,rfl⟩
  ·intro p hp
   simp only [List.mem_cons,List.not_mem_nil,or_false] at hp
   rcases hp with rfl|rfl
   ·exact ⟨by decide,by decide,rfl,rfl,rfl,rfl⟩
   ·exact ⟨by decide,by decide,rfl,rfl,rfl,rfl⟩
  ·refine CX.mono (Ku _ _ _ _ _) ?_
   rintro h' nx' ⟨rfl,rfl⟩;exact ⟨[.agg [.d .nil,.d .nil,.d .nil],.d (I 3)],_,rfl,rfl,rfl,rfl⟩
theorem A1 (s:List UInt8) (hs:s.length<1000000) (l:List Tok) (hl:l.length<1000000) (hw:fM s=(l,0)) (he:mX l 0 0<=40) (a b c:List (List Dat)) (ns:List Nod)
  (hb:bk P0 ez [.ptr 0 0] (rdN l 0 []) (.agg [.d (.slice 3 a false),.d (.slice 3 b false),.d (.slice 5 c false)]) (rdN l l.length ns)):Ret P0 eN [.str s] (.tuple [.agg [.slice 3 a false,.slice 3 b false,.slice 5 c false],I 0]):=by
 have h1:=ou s hs;have h2:=oO l hl;rw [hw] at h1;generalize mX l 0 0=d at *;refine kE nU rfl ?_
 repeat' first|refine aw ?_|refine bw (fun _=>?_) fun _=>?_
 refine ag 3 [2] hb ?_
 repeat' first|refine aw ?_|refine bw (fun _=>?_) fun _=>?_
 refine aY ⟨_,.inl rfl,.inr ⟨none,jS,[],[.ptr 0 0,.ptr 1 0],.inl ⟨.inr rfl,rfl⟩,rfl,?_⟩⟩;refine CX.mono (Qu _ _) ?_;rintro h' nx' ⟨rfl,rfl⟩;exact ⟨[.agg [.d (.slice 3 a false),.d (.slice 3 b false),.d (.slice 5 c false)],.d (I 0)],_,rfl,rfl,rfl,rfl⟩
def QX (x:Pg×Int):Dat:=.tuple [pgD x.1,I x.2]
theorem GX:∀(fs:List Fn) (b:Nat),AA (gd fs b) ((s6 fs b).map fuL)
 | [],b=>.refl _
 | f::fs,b=>by
  refine .cons (.cons (.refl _) (.cons ?_ (.refl _))) (GX fs _);show DLe (jZ f.args) (fY f.args);unfold jZ
  split
  ·rename_i h;rw [h];exact .nil 1
  ·exact .refl _
theorem Tz {x:Nod} (h:x.kind=1\/x.kind=2\/x.kind=12->x.of=[]):DLe (ofD x.kind x.of) (bT (x.of.map fun (i:Nat)=>(i:Int))):=by
 have e:(x.of.map fun (i:Nat)=>[I i])=((x.of.map fun (i:Nat)=>(i:Int)).map fun i=>[I i]):=by simp
 unfold ofD bT
 split
 ·rename_i hk;rw [h hk];exact .nil 1
 ·split
  ·split
   ·rename_i h0;rw [h0];exact .nil 1
   ·rw [e];exact .refl _
  ·split
   ·rw [e];exact .refl _
   ·rw [e];exact .slice (.refl _)
def rU (l:List Nod):Prop:=∀x∈l,x.kind=1\/x.kind=2\/x.kind=12->x.of=[]
theorem rU.app {a b:List Nod} (h1:rU a) (h2:rU b):rU (a++b):=fun x hx=>(List.mem_append.1 hx).elim (h1 x) (h2 x)
theorem rU.one {x:Nod} (h:x.kind=1\/x.kind=2\/x.kind=12->x.of=[]):rU [x]:=fun y hy=>by simp at hy;subst hy;exact h
end Uw.Tryz
namespace Uw.Tryz
open Go Uw
def Nu (s:Str):Prop:=bQ s=some (1,s.length,0)
def ii (s:Str):Prop:=Nu s/\AG s=false
def Ak (n:Int):Prop:=0<=n/\n<4294967296
structure vG (t:Tok):Prop where
 name:t.kind=1->Nu t.text
 num:t.kind=2->Ak t.n
 wf:Wf t
mutual
def Ex.good:Ex->Prop
 | .num n=>Ak n
 | .name s=>ii s
 | .bin k a b=>(3<=k/\k<=7)/\a.good/\b.good
 | .call o v ar=>ii o/\ii v/\ar.good
def Exs.good:Exs->Prop
 | .nil=>True
 | .cons e r=>e.good/\r.good
end
mutual
def Stm.good:Stm->Prop
 | .set s e=>ii s/\e.good
 | .task par to f ar=>(to=[]\/ii to)/\ii f/\ar.good/\(par=true->ar.length=2)
 | .sync=>True
 | .if1 e a=>e.good/\a.good
 | .if2 e a b=>e.good/\a.good/\b.good
 | .loop e a=>e.good/\a.good
 | .one k e=>(k=15\/k=16)/\e.good
 | .act o v ar=>ii o/\ii v/\ar.good
def Bl.good:Bl->Prop
 | .nil=>True
 | .cons s r=>s.good/\r.good
end
structure Dec.good (d:Dec):Prop where
 kind:0<=d.kind/\d.kind<=3
 name:ii d.name
 n:Ak d.n
 zero:d.kind≠0->d.n=0
structure Fn.good (f:Fn):Prop where
 name:ii f.name
 args:∀s∈f.args,ii s
 body:f.body.good
def VV {α:Type} (p:List Tok->R α) (Q:α->Prop):Prop:=∀r a r',(∀t∈r,vG t)->p r = .ok a r'->Q a/\∀t∈r',vG t
section
variable {α β : Type} {Q : α -> Prop} {Q1 : β -> Prop}
theorem VV.ret {a:α} (h:Q a):VV (eE a) Q:=by
 intro r b r' ht he;injection he with h1 h2
 subst h1 h2;exact ⟨h,ht⟩
theorem VV.bad:VV (LV (α:=α)) Q:=by intro r b r' ht he;cases he
theorem VV.out:VV (fun _=>(.out:R α)) Q:=by intro r b r' ht he;cases he
theorem VV.bind {p:List Tok->R β} {f:β->List Tok->R α} (h1:VV p Q1) (h2:∀b,Q1 b->VV (f b) Q):VV (c9 p f) Q:=by
 intro r a r' ht he;obtain ⟨b,r1,e1,e2⟩:=bind_ok.1 he;obtain ⟨g1,g2⟩:=h1 _ _ _ ht e1;exact h2 b g1 _ _ _ g2 e2
theorem VV.want {s:Str} {p:List Tok->R α} (h:VV p Q):VV (j9 s p) Q:=by
 intro r a r' ht he;obtain ⟨b,r1,e1,e2⟩:=bind_ok.1 he;obtain ⟨_,rfl⟩:=C4 e1;exact h _ _ _ (fun t h=>ht t (List.mem_of_mem_tail h)) e2
theorem VV.skip {s:Str} {p q:List Tok->R α} (h1:VV p Q) (h2:VV q Q):VV (fX s p q) Q:=by
 intro r a r' ht he;unfold fX at he
 split at he
 ·exact h1 _ _ _ (fun t h=>ht t (List.mem_of_mem_tail h)) he
 ·exact h2 _ _ _ ht he
theorem VV.peek {s:Str} {p q:List Tok->R α} (h1:VV p Q) (h2:VV q Q):VV (nR s p q) Q:=by
 intro r a r' ht he;unfold nR at he
 split at he
 ·exact h1 _ _ _ ht he
 ·exact h2 _ _ _ ht he
theorem VV.name {f:Str->List Tok->R α} (h:∀s,ii s->VV (f s) Q):VV (cName f) Q:=by
 intro r a r' ht he;obtain ⟨b,r1,e1,e2⟩:=bind_ok.1 he;obtain ⟨t,rfl,rfl,h4,h5⟩:=C5 e1;exact h _ ⟨(ht t (List.mem_cons_self ..)).name h4,h5⟩ _ _ _ (fun t h=>ht t (List.mem_cons_of_mem _ h)) e2
theorem VV.word {k:Int} {f:Str->Int->List Tok->R α} (h:∀s n,(k=2->Ak n)->VV (f s n) Q):VV (E7 k f) Q:=by
 intro r a r' ht he;obtain ⟨t,r1,e1,e2⟩:=bind_ok.1 he;obtain ⟨q,rfl,rfl,h4⟩:=ya e1;exact h _ _ (fun e=>(ht t (List.mem_cons_self ..)).num (by omega)) _ _ _ (fun t h=>ht t (List.mem_cons_of_mem _ h)) e2
theorem VV.num {f:Int->List Tok->R α} {q:List Tok->R α} (h1:∀n,Ak n->VV (f n) Q) (h2:VV q Q):VV (Hw f q) Q:=by
 intro r a r' ht he;unfold Hw at he
 split at he
 ·rename_i hn
  cases r with
  | nil=>cases hn
  | cons t l=>
   have hk:t.kind=2:=by simpa [isNum] using hn
   exact h1 _ ((ht t (List.mem_cons_self ..)).num hk) _ _ _ (fun t h=>ht t (List.mem_cons_of_mem _ h)) he
 ·exact h2 _ _ _ ht he
theorem VV.mono {Q' : α->Prop} {p:List Tok->R α} (h:VV p Q) (hq:∀a,Q a->Q' a):VV p Q':=fun r a r' ht he=>⟨hq a (h r a r' ht he).1,(h r a r' ht he).2⟩
end
theorem kA {α:Type} {Q:α->Prop} {p:List Tok->R α} (h:∀r,p r = .out):VV p Q:=by
 intro r a r' _ he;rw [h] at he;cases he
structure VE (n:Nat):Prop where
 qC:VV (jx n) Ex.good
 call:∀s,VV (gR n s) fun x=>ii x.1/\x.2.good
 args:VV (gw n) Exs.good
 sZ:VV (dR n) Exs.good
 prod:VV (iH n) Ex.good
 rj:∀l,l.good->VV (eK n l) Ex.good
 sum:VV (nE n) Ex.good
 sumT:∀l,l.good->VV (fF n l) Ex.good
 expr:VV (dL n) Ex.good
theorem ve:∀n,VE n
 | 0=>⟨kA fun r=>by rw [jx],fun s=>kA fun r=>by rw [gR],kA fun r=>by rw [gw],kA fun r=>by rw [dR],kA fun r=>by rw [iH],fun l _=>kA fun r=>by rw [eK],kA fun r=>by rw [nE],fun l _=>kA fun r=>by rw [fF],kA fun r=>by rw [dL]⟩
 | n+1=>by
  have ih:=ve n;refine ⟨?_,?_,?_,?_,?_,?_,?_,?_,?_⟩
  ·rw [yV n]
   exact .skip (.bind ih.expr fun e he=>.want (.ret he)) (.num (fun v hv=>.ret hv) (.name fun s hs=>.peek (.bind (ih.call s) fun x hx=>.ret ⟨hs,hx.1,hx.2⟩) (.ret hs)))
  ·intro s
   rw [yW n];exact .want (.name fun v hv=>.bind ih.args fun ar har=>.ret ⟨hv,har⟩)
  ·rw [yX n]
   exact .want (.skip (.ret trivial) (.bind ih.expr fun e he=>.bind ih.sZ fun es hes=>.ret ⟨he,hes⟩))
  ·rw [vW n]
   exact .skip (.bind ih.expr fun e he=>.bind ih.sZ fun es hes=>.ret ⟨he,hes⟩) (.want (.ret trivial))
  ·rw [yY n]
   exact .bind ih.qC fun e he=>ih.rj e he
  ·intro l hl
   rw [vX n];exact .skip (.bind ih.qC fun e he=>ih.rj _ ⟨by omega,hl,he⟩) (.ret hl)
  ·rw [C6 n]
   exact .bind ih.prod fun e he=>ih.sumT e he
  ·intro l hl
   rw [yZ n];exact .skip (.bind ih.prod fun e he=>ih.sumT _ ⟨by omega,hl,he⟩) (.skip (.bind ih.prod fun e he=>ih.sumT _ ⟨by omega,hl,he⟩) (.ret hl))
  ·rw [y5 n]
   exact .bind ih.sum fun l hl=>.skip (.bind ih.sum fun e he=>.ret ⟨by omega,hl,he⟩) (.skip (.bind ih.sum fun e he=>.ret ⟨by omega,hl,he⟩) (.ret hl))
theorem vH (n:Nat) (to:Str) (hto:to=[]\/ii to):VV (gj n to) Stm.good:=by
 rw [vY n];refine .bind (Q1:=fun _=>True) (.skip (.ret trivial) (.want (.ret trivial))) fun par _=>.name fun f hf=>.bind (ve n).args fun ar har=>?_
 split
 ·exact .bad
 ·rename_i h
  refine .ret ⟨hto,hf,har,fun hp=>?_⟩;exact Classical.byContradiction fun hn=>h ⟨hp,hn⟩
theorem Kv (n:Nat):VV (iu n) Stm.good:=by
 rw [tU n];exact .peek (vH n [] (.inl rfl)) (.peek (vH n [] (.inl rfl)) (.skip (.ret trivial) (.skip (.bind (ve n).expr fun e he=>.ret ⟨.inl rfl,he⟩) (.skip (.bind (ve n).expr fun e he=>.ret ⟨.inr rfl,he⟩)
  (.name fun s hs=>.peek (.bind ((ve n).call s) fun x hx=>.ret ⟨hs,hx.1,hx.2⟩) (.want (.peek (vH n s (.inr hs)) (.peek (vH n s (.inr hs)) (.bind (ve n).expr fun e he=>.ret ⟨hs,he⟩)))))))))
structure VS (n:Nat):Prop where
 stmt:VV (jy n) Stm.good
 block:VV (dr n) Bl.good
 stmts:VV (dS n) Bl.good
theorem vs_:∀n,VS n
 | 0=>⟨kA fun r=>by rw [jy],kA fun r=>by rw [dr],kA fun r=>by rw [dS]⟩
 | n+1=>by
  have ih:=vs_ n;refine ⟨?_,?_,?_⟩
  ·rw [y6 n]
   exact .skip (.bind (ve n).expr fun e he=>.bind ih.block fun a ha=>.skip (.bind ih.block fun b hb=>.ret ⟨he,ha,hb⟩) (.ret ⟨he,ha⟩)) (.skip (.bind (ve n).expr fun e he=>.bind ih.block fun a ha=>.ret ⟨he,ha⟩) (.bind (Kv n) fun s hs=>.want (.ret hs)))
  ·rw [vZ n]
   exact .want ih.stmts
  ·rw [v7 n]
   exact .skip (.ret trivial) (.bind ih.stmt fun s hs=>.bind ih.stmts fun ss hss=>.ret ⟨hs,hss⟩)
theorem BX:∀n,VV (cG n) fun l=>∀s∈l,ii s
 | 0=>kA fun r=>by rw [cG]
 | n+1=>by
  rw [tV n];refine .skip (.name fun s hs=>.bind (BX n) fun l hl=>.ret ?_) (.want (.ret (by simp)));intro x hx
  rcases List.mem_cons.1 hx with rfl|hx
  ·exact hs
  ·exact hl x hx
theorem TA (n:Nat):VV (rh n) Fn.good:=by
 rw [C7 n];refine .want (.name fun s hs=>.bind (Q1:=fun l=>∀s∈l,ii s) ?_ fun l hl=>.bind (vs_ n).block fun b hb=>.ret ⟨hs,hl,hb⟩);rw [v8 n];refine .want (.skip (.ret (by simp)) (.name fun s hs=>.bind (BX n) fun l hl=>.ret ?_));intro x hx
 rcases List.mem_cons.1 hx with rfl|hx
 ·exact hs
 ·exact hl x hx
theorem Kw {s:Str} {k:Int} (h:kindOf s=some k):0<=k/\k<=3:=by
 unfold kindOf at h
 repeat' split at h
 all_goals first|(injection h with h;omega)|cases h
theorem Vq:Ak 0:=⟨by decide,by decide⟩
theorem Qv:VV ri Dec.good:=by
 rw [uT];refine .word fun t _ _=>?_;unfold s5
 cases hk:kindOf t with
 | none=>exact .bad
 | some k=>
  have:=Kw hk;refine .name fun s hs=>?_;show VV (if k=0 then _ else _) _
  split
  ·exact .skip (.word fun _ n hn=>.want (.ret ⟨this,hs,hn rfl,fun h=>absurd ‹k=0› h⟩)) (.want (.ret ⟨this,hs,Vq,fun h=>rfl⟩))
  ·exact .want (.ret ⟨this,hs,Vq,fun h=>rfl⟩)
theorem y9.good {r r' : List Tok} {ds:List Dec} (h:y9 r ds r'):(∀t∈r,vG t)->(∀d∈ds,d.good)/\∀t∈r',vG t:=by
 induction h with
 | stop _=>exact fun ht=>⟨by simp,ht⟩
 | cons _ h1 _ ih=>
  intro ht;obtain ⟨g1,g2⟩:=Qv _ _ _ ht h1;obtain ⟨g3,g4⟩:=ih g2;exact ⟨fun d hd=>(List.mem_cons.1 hd).elim (fun e=>e ▸ g1) (g3 d),g4⟩
theorem AH.good {r:List Tok} {fs:List Fn} (h:AH r fs):(∀t∈r,vG t)->∀f∈fs,f.good:=by
 induction h with
 | nil=>exact fun ht=>by simp
 | cons h1 _ ih=>
  intro ht;obtain ⟨n,h1⟩:=h1;obtain ⟨g1,g2⟩:=TA n _ _ _ ht h1;exact fun d hd=>(List.mem_cons.1 hd).elim (fun e=>e ▸ g1) (ih g2 d)
theorem Prg.good {l:List Tok} {ds:List Dec} {fs:List Fn} (h:Prg l ds fs) (ht:∀t∈l,vG t):(∀d∈ds,d.good)/\∀f∈fs,f.good:=by
 obtain ⟨r,h1,h2⟩:=h;obtain ⟨g1,g2⟩:=h1.good ht;exact ⟨g1,h2.good g2⟩
theorem j0 {α:Type} (p:α->Bool):∀(l:List α),l.take (l.takeWhile p).length=l.takeWhile p
 | []=>rfl
 | a::l=>by
  rw [List.takeWhile_cons];by_cases h:p a=true
  ·rw [if_pos h,List.length_cons,List.take_succ_cons,j0 p l]
  ·rw [if_neg h];rfl
theorem lG {α:Type} (p:α->Bool):∀(l:List α),(l.takeWhile p).takeWhile p=l.takeWhile p
 | []=>rfl
 | a::l=>by
  rw [List.takeWhile_cons];by_cases h:p a=true
  ·rw [if_pos h,List.takeWhile_cons,if_pos h,lG p l]
  ·rw [if_neg h];rfl
theorem lW {α:Type} (p:α->Bool):∀(l:List α),(l.takeWhile p).dropWhile p=[]
 | []=>rfl
 | a::l=>by
  rw [List.takeWhile_cons];by_cases h:p a=true
  ·rw [if_pos h,List.dropWhile_cons,if_pos h,lW p l]
  ·rw [if_neg h];rfl
theorem H8 {r:List UInt8} {k:Int} {n:Nat} {v:Int} (h:bQ r=some (k,n,v)):bQ (r.take n)=some (k,n,v)/\(k=1\/k=2\/k=3)/\(k=2->Ak v)/\(k=1->v=0):=by
 cases r with
 | nil=>simp [bQ] at h
 | cons c t=>
  rw [bQ] at h;by_cases a1:cls c=1
  ·rw [if_pos a1] at h
   split at h
   ·rename_i hl
    simp only [Option.some.injEq,Prod.mk.injEq] at h;obtain ⟨rfl,rfl,rfl⟩:=h;refine ⟨?_,.inl rfl,fun h=>by omega,fun _=>rfl⟩;rw [Nat.add_comm,List.take_succ_cons,j0,bQ,if_pos a1,lG,if_pos hl,Nat.add_comm]
   ·cases h
  ·rw [if_neg a1] at h
   by_cases a2:cls c=2
   ·rw [if_pos a2] at h
    split at h
    ·rename_i hl
     simp only [Option.some.injEq,Prod.mk.injEq] at h;obtain ⟨rfl,rfl,rfl⟩:=h;obtain ⟨h1,h2,h3,h4⟩:=hl;refine ⟨?_,.inr (.inl rfl),fun h=>⟨by omega,by omega⟩,fun h=>by omega⟩;rw [Nat.add_comm,List.take_succ_cons,j0,bQ,if_neg a1,if_pos a2,lG,lW,if_pos ⟨h1,h2,h3,rfl⟩,Nat.add_comm]
    ·cases h
   ·rw [if_neg a2] at h
    by_cases a5:cls c=5
    ·rw [if_pos a5] at h
     split at h
     ·rename_i hq
      simp only [Option.some.injEq,Prod.mk.injEq] at h;obtain ⟨rfl,rfl,rfl⟩:=h
      cases t with
      | nil=>simp [eqq] at hq
      | cons b u=>
       refine ⟨?_,.inr (.inr rfl),fun h=>by omega,fun h=>by omega⟩;show bQ [c,b]=_;rw [bQ,if_neg a1,if_neg a2,if_pos a5,if_pos ⟨hq.1,by have:=hq.2;simpa [eqq] using this⟩]
     ·rename_i hq
      simp only [Option.some.injEq,Prod.mk.injEq] at h;obtain ⟨rfl,rfl,rfl⟩:=h;refine ⟨?_,.inr (.inr rfl),fun h=>by omega,fun h=>by omega⟩;show bQ [c]=_;rw [bQ,if_neg a1,if_neg a2,if_pos a5,if_neg (by simp [eqq])]
    ·rw [if_neg a5] at h;cases h
theorem H9 {s:Str} (h:delta s≠0):∃c,s=[c]/\cls c=5:=by
 unfold delta at h
 split at h
 ·rename_i h1
  rcases h1 with rfl|rfl
  ·exact ⟨_,rfl,by decide⟩
  ·exact ⟨_,rfl,by decide⟩
 ·split at h
  ·rename_i h1
   rcases h1 with rfl|rfl
   ·exact ⟨_,rfl,by decide⟩
   ·exact ⟨_,rfl,by decide⟩
  ·exact absurd rfl h
theorem TB {r:List UInt8} {k:Int} {n:Nat} {v:Int} (h:bQ r=some (k,n,v)) (a:Int):vG ⟨k,r.take n,v,a⟩:=by
 obtain ⟨h1,h2,h3,h4⟩:=H8 h;have hl:=mE h;refine ⟨fun hk=>?_,h3,fun hk=>?_⟩
 ·have hk:k=1:=hk
  subst hk;show bQ (r.take n)=some (1,(r.take n).length,0);rw [h1,h4 rfl,List.length_take,Nat.min_eq_left hl.2]
 ·refine Classical.byContradiction fun hd=>?_
  obtain ⟨c,e,hc⟩:=H9 hd;have e:r.take n=[c]:=e;rw [e] at h1;rw [bQ,if_neg (by omega),if_neg (by omega),if_pos hc,if_neg (by simp [eqq])] at h1;injection h1 with h1
  injection h1 with h1 _
  exact hk h1.symm
theorem Eo:∀(f:Nat) (r:List UInt8) (a:Int) (l:List Tok),o6 f r a=some l->∀t∈l,vG t
 | 0,[],a,l,h=>by rw [o6] at h;injection h with h;subst h;simp
 | _+1,[],a,l,h=>by rw [o6] at h;injection h with h;subst h;simp
 | 0,c::t,a,l,h=>by unfold o6 at h;cases h
 | f+1,c::t,a,l,h=>by
  rw [o6] at h
  split at h
  ·exact Eo f _ _ _ h
  ·split at h
   ·cases h
   ·rename_i k n v ht
    rw [Option.map_eq_some_iff] at h;obtain ⟨l',h1,rfl⟩:=h;intro x hx
    rcases List.mem_cons.1 hx with rfl|hx
    ·exact TB ht a
    ·exact Eo f _ _ _ h1 x hx
theorem GY (s:List UInt8):∀t∈(fM s).1,vG t:=by
 unfold fM
 split
 ·simp
 ·split
  ·simp
  ·rename_i l h
   exact Eo _ _ _ _ h
end Uw.Tryz
namespace Uw.Tryz
open Go Uw
mutual
theorem Ex.nI:∀(e:Ex) (b:Nat),e.good->rU (e.flat b)
 | .num _,b,_=>.one (fun _=>rfl)
 | .name _,b,_=>.one (fun _=>rfl)
 | .bin k x y,b,⟨hk,hx,hy⟩=>((x.nI b hx).app (y.nI _ hy)).app (.one (by simp only;omega))
 | .call o v ar,b,⟨_,_,h⟩=>(ar.nI b h).app (.one (by simp))
theorem Exs.nI:∀(e:Exs) (b:Nat),e.good->rU (e.flat b)
 | .nil,b,_=>by simp [rU,Exs.flat]
 | .cons e r,b,⟨h1,h2⟩=>(e.nI b h1).app (r.nI _ h2)
end
theorem Bl.rV {x:Bl} {b:Nat} (h:rU (x.flat b)):rU (x.all b):=h.app (.one (by simp))
mutual
theorem Stm.nI:∀(e:Stm) (b:Nat),e.good->rU (e.flat b)
 | .set s e,b,⟨_,h⟩=>(e.nI b h).app (.one (by simp))
 | .task par to f ar,b,⟨_,_,h,_⟩=>(ar.nI b h).app (.one (by simp only;split<;>omega))
 | .sync,b,_=>.one (fun _=>rfl)
 | .if1 e x,b,⟨h1,h2⟩=>((e.nI b h1).app (Bl.rV (x.nI _ h2))).app (.one (by simp))
 | .if2 e x y,b,⟨h1,h2,h3⟩=>(((e.nI b h1).app (Bl.rV (x.nI _ h2))).app (Bl.rV (y.nI _ h3))).app (.one (by simp))
 | .loop e x,b,⟨h1,h2⟩=>((e.nI b h1).app (Bl.rV (x.nI _ h2))).app (.one (by simp))
 | .one k e,b,⟨hk,h⟩=>(e.nI b h).app (.one (by simp only;omega))
 | .act o v ar,b,⟨_,_,h⟩=>((ar.nI b h).app (.one (by simp))).app (.one (by simp))
theorem Bl.nI:∀(e:Bl) (b:Nat),e.good->rU (e.flat b)
 | .nil,b,_=>by simp [rU,Bl.flat]
 | .cons e r,b,⟨h1,h2⟩=>(e.nI b h1).app (r.nI _ h2)
end
theorem xw:∀(fs:List Fn) (b:Nat),(∀f∈fs,f.good)->rU (cC fs b)
 | [],b,_=>by simp [rU,cC]
 | f::fs,b,h=>(Bl.rV (f.body.nI b (h f (List.mem_cons_self ..)).body)).app (xw fs _ fun x hx=>h x (List.mem_cons_of_mem _ hx))
theorem GZ:∀(l:List Nod),rU l->AA (l.map bW) ((l.map Nod.nd).map ndL)
 | [],_=>.refl _
 | x::l,h=>.cons (.cons (.refl _) (.cons (.refl _) (.cons (.refl _) (.cons (.refl _) (.cons (Tz (h x (List.mem_cons_self ..))) (.refl _)))))) (GZ l fun y hy=>h y (List.mem_cons_of_mem _ hy))
theorem TC {x:List Dec×List Fn} (h:∀f∈x.2,f.good):DLe (Ww x) (pgD (SE x)):=
 .agg (.cons (.refl _) (.cons (.slice (GX x.2 0)) (.cons (.slice (GZ _ (xw x.2 0 h))) (.refl _))))
theorem QY:DLe noD (pgD AK):=.agg (.cons (.nil 3) (.cons (.nil 3) (.cons (.nil 5) (.refl _))))
theorem Am:∀(f:Nat) (r:List UInt8) (a:Int) (l:List Tok),o6 f r a=some l->l.length<=r.length
 | 0,[],a,l,h=>by rw [o6] at h;injection h with h;subst h;simp
 | _+1,[],a,l,h=>by rw [o6] at h;injection h with h;subst h;simp
 | 0,c::t,a,l,h=>by unfold o6 at h;cases h
 | f+1,c::t,a,l,h=>by
  rw [o6] at h
  split at h
  ·have:=Am f _ _ _ h
   simp;omega
  ·split at h
   ·cases h
   ·rename_i k n v ht
    rw [Option.map_eq_some_iff] at h;obtain ⟨l',h1,rfl⟩:=h;have:=Am f _ _ _ h1;have:=mE ht;simp at *;omega
theorem An (s:List UInt8):(fM s).1.length<=s.length:=by
 unfold fM
 split
 ·simp
 ·split
  ·simp
  ·rename_i l h
   exact Am _ _ _ _ h
theorem ut (s:List UInt8) (hs:s.length<1000000):Ret P0 eN [.str s] (QX (ofR s)):=by
 have hno:∀e:Int,DLe (.tuple [noD,I e]) (.tuple [pgD AK,I e]):=fun e=>.tuple (.cons QY (.refl _));generalize hw:fM s=w;obtain ⟨l,e⟩:=w;have hl:l.length<1000000:=by
  have:=An s;rw [hw] at this;simp only at this;omega
 unfold ofR;rw [hw];simp only;by_cases he:e≠0
 ·rw [if_pos he]
  exact (Ai s hs l e hw he).res (hno e)
 ·rw [if_neg he]
  have he:e=0:=Classical.byContradiction he;subst he;by_cases hd:40<mX l 0 0
  ·rw [if_pos hd]
   exact (xY s hs l hl hw hd).res (hno 2)
  ·rw [if_neg hd]
   have hc:=Tv l hl (wV l);have Wx:=OU l;unfold wX
   cases hp:uS (wV l) l with
   | out=>exact absurd hp Wx
   | bad=>
    rw [hp] at hc;exact (Aj s hs l hl hw (by omega) hc).res (hno 3)
   | ok x r=>
    obtain ⟨ds,fs⟩:=x;rw [hp] at hc;refine (A1 s hs l hl hw (by omega) _ _ _ (cC fs 0) hc).res ?_;refine .tuple (.cons (TC (x:=(ds,fs)) ?_) (.refl _));have:=GY s;rw [hw] at this;exact ((II hp).good this).2
end Uw.Tryz
namespace Uw.Tryz
open Go Uw
def N9 (l:List Nod):Prop:=∀x∈l,x.kind=9->x.name≠[]
theorem N9.app {a b:List Nod} (h1:N9 a) (h2:N9 b):N9 (a++b):=fun x h=>(List.mem_append.1 h).elim (h1 x) (h2 x)
theorem N9.one {x:Nod} (h:x.kind=9->x.name≠[]):N9 [x]:=by intro a ha;simp at ha;subst ha;exact h
theorem Nv {s:Str} (h:ii s):s≠[]:=fun e=>by
 subst e;have:=h.1;simp [Nu,bQ] at this
mutual
theorem Ex.n9:∀(e:Ex) (b:Nat),e.good->N9 (e.flat b)
 | .num _,b,_=>.one (fun h=>by simp at h)
 | .name _,b,_=>.one (fun h=>by simp at h)
 | .bin k x y,b,⟨hk,hx,hy⟩=>((x.n9 b hx).app (y.n9 _ hy)).app (.one (by simp only;omega))
 | .call o v ar,b,⟨_,_,h⟩=>(ar.n9 b h).app (.one (fun h=>by simp at h))
theorem Exs.n9:∀(e:Exs) (b:Nat),e.good->N9 (e.flat b)
 | .nil,b,_=>by simp [N9,Exs.flat]
 | .cons e r,b,⟨h1,h2⟩=>(e.n9 b h1).app (r.n9 _ h2)
end
theorem Bl.Ao {x:Bl} {b:Nat} (h:N9 (x.flat b)):N9 (x.all b):=h.app (.one (fun h=>by simp at h))
mutual
theorem Stm.n9:∀(e:Stm) (b:Nat),e.good->N9 (e.flat b)
 | .set s e,b,⟨hs,h⟩=>(e.n9 b h).app (.one (fun _=>Nv hs))
 | .task par to f ar,b,⟨_,_,h,_⟩=>(ar.n9 b h).app (.one (by simp only;split<;>omega))
 | .sync,b,_=>.one (fun h=>by simp at h)
 | .if1 e x,b,⟨h1,h2⟩=>((e.n9 b h1).app (Bl.Ao (x.n9 _ h2))).app (.one (fun h=>by simp at h))
 | .if2 e x y,b,⟨h1,h2,h3⟩=>(((e.n9 b h1).app (Bl.Ao (x.n9 _ h2))).app (Bl.Ao (y.n9 _ h3))).app (.one (fun h=>by simp at h))
 | .loop e x,b,⟨h1,h2⟩=>((e.n9 b h1).app (Bl.Ao (x.n9 _ h2))).app (.one (fun h=>by simp at h))
 | .one k e,b,⟨hk,h⟩=>(e.n9 b h).app (.one (by simp only;omega))
 | .act o v ar,b,⟨_,_,h⟩=>((ar.n9 b h).app (.one (fun h=>by simp at h))).app (.one (fun h=>by simp at h))
theorem Bl.n9:∀(e:Bl) (b:Nat),e.good->N9 (e.flat b)
 | .nil,b,_=>by simp [N9,Bl.flat]
 | .cons e r,b,⟨h1,h2⟩=>(e.n9 b h1).app (r.n9 _ h2)
end
theorem BZ:∀(fs:List Fn) (b:Nat),(∀f∈fs,f.good)->N9 (cC fs b)
 | [],b,_=>by simp [N9,cC]
 | f::fs,b,h=>(Bl.Ao (f.body.n9 b (h f (List.mem_cons_self ..)).body)).app (BZ fs _ fun x hx=>h x (List.mem_cons_of_mem _ hx))
theorem Ap:∀(n:Nat) {r r' : List Tok} {l:List Str},cG n r = .ok l r'->Suf r r' l.length
 | 0,_,_,_,h=>by rw [cG] at h;cases h
 | n+1,r,r',l,h=>by
  rw [cG] at h
  split at h
  ·rename_i hh
   obtain ⟨s,r1,h1,h⟩:=bind_ok.1 h;obtain ⟨l2,r2,h2,h⟩:=bind_ok.1 h;injection h with e1 e2
   subst e1 e2;exact ((Suf.hd hh (by decide)).trans ((Suf.name h1).trans (Ap n h2))).le (by simp;omega)
  ·obtain ⟨u,r1,h1,h⟩:=bind_ok.1 h
   injection h with e1 e2
   subst e1 e2;exact (Suf.want (by decide) h1).le (by simp)
theorem Qw {n:Nat} {r r' : List Tok} {f:Fn} (h:rh n r = .ok f r'):r'.length+f.sz<=r.length/\f.args.length<=r.length/\r'.length<r.length:=by
 rw [rh] at h;obtain ⟨u,r1,h1,h⟩:=bind_ok.1 h;obtain ⟨s,r2,h2,h⟩:=bind_ok.1 h;obtain ⟨l,r3,h3,h⟩:=bind_ok.1 h;obtain ⟨b,r4,h4,h⟩:=bind_ok.1 h;injection h with e1 e2
 subst e1 e2;have a1:=(Suf.want (by decide) h1).len;have a2:=(Suf.name h2).len;have a4:=((s4 n).block _ _ _ h4).len;have a3:Suf r2 r3 l.length:=by
  rw [jO] at h3;obtain ⟨u,q1,g1,h3⟩:=bind_ok.1 h3
  split at h3
  ·rename_i hh
   injection h3 with e1 e2
   subst e1 e2;exact ((Suf.want (by decide) g1).trans (Suf.hd hh (by decide))).le (by simp)
  ·obtain ⟨s,q2,g2,h3⟩:=bind_ok.1 h3
   obtain ⟨l2,q3,g3,h3⟩:=bind_ok.1 h3;injection h3 with e1 e2
   subst e1 e2;exact ((Suf.want (by decide) g1).trans ((Suf.name g2).trans (Ap n g3))).le (by simp;omega)
 have a3:=a3.len;simp only [Fn.sz];omega
theorem Nw {r:List Tok} {fs:List Fn} (h:AH r fs):eU fs<=r.length/\fs.length<=r.length/\∀f∈fs,f.args.length<=r.length:=by
 induction h with
 | nil=>simp [eU]
 | cons h1 h2 ih=>
  obtain ⟨n,h1⟩:=h1;have:=Qw h1;refine ⟨by rw [eU];omega,by rw [List.length_cons];omega,fun f hf=>?_⟩
  rcases List.mem_cons.1 hf with rfl|hf
  ·exact this.2.1
  ·have:=ih.2.2 f hf;omega
theorem TD (s:List UInt8) (h:(ofR s).2≠0):(ofR s).1=AK:=by
 unfold ofR at h ⊢
 split at h
 ·rename_i h1
  rw [if_pos h1]
 ·split at h
  ·rename_i h1 h2
   rw [if_neg h1,if_pos h2]
  ·rename_i h1 h2
   rw [if_neg h1,if_neg h2]
   cases hp:wX (fM s).1 with
   | none=>rfl
   | some x=>rw [hp] at h;exact absurd rfl h
theorem TE (s:List UInt8) (h:(ofR s).2=0):∃ds fs,Prg (fM s).1 ds fs/\(ofR s).1=SE (ds,fs):=by
 unfold ofR at h ⊢
 split at h
 ·rename_i h1
  exact absurd h h1
 ·split at h
  ·cases h
  ·rename_i h1 h2
   rw [if_neg h1,if_neg h2]
   cases hp:wX (fM s).1 with
   | none=>rw [hp] at h;cases h
   | some x=>exact ⟨x.1,x.2,JJ.1 hp,rfl⟩
theorem B0:∀(fs:List Fn) (b:Nat),∀g∈s6 fs b,∃f∈fs,g.args=f.args/\g.name=f.name
 | [],_,g,h=>by simp [s6] at h
 | f::fs,b,g,h=>by
  rw [s6] at h
  rcases List.mem_cons.1 h with rfl|h
  ·exact ⟨f,by simp,rfl,rfl⟩
  ·obtain ⟨f2,h1,h2⟩:=B0 fs _ g h
   exact ⟨f2,by simp [h1],h2⟩
theorem TF {ns:List Nod} {x:Nod} (h:x∈ns):x.of.length<=(ofs ns).length:=by
 induction ns with
 | nil=>simp at h
 | cons y ns ih=>
  rw [ofs,List.flatMap_cons,List.length_append]
  rcases List.mem_cons.1 h with rfl|h
  ·omega
  ·have:=ih h
   rw [ofs] at this;omega
theorem Ia (s:List UInt8) (hs:s.length<100000):Lim (ofR s).1/\Ec (ofR s).1/\(ofR s).1.nodes.length<=s.length/\(ofR s).1.ae.length<=s.length:=by
 by_cases he:(ofR s).2=0
 rotate_left 1
 ·rw [TD s he]
  exact ⟨⟨by decide,by decide,by decide,by decide,by decide⟩,⟨fun d h=>by simp [AK] at h,fun x h=>by simp [AK] at h⟩,Nat.zero_le _,Nat.zero_le _⟩
 ·obtain ⟨ds,fs,hp,e⟩:=TE s he
  have hg:=hp.good (GY s);obtain ⟨r,h1,h2⟩:=hp;have hl:=An s;have a1:=h1.len;obtain ⟨b1,b2,b3⟩:=Nw h2;have hn:((cC fs 0).map Nod.nd).length<=s.length:=by rw [List.length_map,tW];omega
  have hof:(ofs (cC fs 0)).length<=eU fs:=by
   have:=(wY fs 0).length_eq;rw [List.length_append,List.length_range'] at this;omega
  rw [e];refine ⟨⟨?_,?_,?_,?_,?_⟩,⟨fun d hd=>(hg.1 d hd).n,fun x hx=>?_⟩,hn,?_⟩
  ·exact Nat.lt_of_le_of_lt hn hs
  ·show (s6 fs 0).length<_;rw [wc];omega
  ·show ds.length<_;omega
  ·intro x hx
   obtain ⟨y,hy,rfl⟩:=List.mem_map.1 hx;have:y.of.length<=(ofs (cC fs 0)).length:=TF hy;show (y.of.map _).length<_;rw [List.length_map];omega
  ·intro g hgm
   obtain ⟨f,hf,e,_⟩:=B0 fs 0 g hgm;rw [e];have:=b3 f hf;omega
  ·obtain ⟨y,hy,rfl⟩:=List.mem_map.1 hx
   exact BZ fs 0 hg.2 y hy
  ·show (s6 fs 0).length<=_;rw [wc];omega
end Uw.Tryz
namespace Uw.Tryz
open Go Uw
def alT:List UInt8:=[99,101,108,108,32,120,59,32,109,97,112,32,109,59,32,102,117,110,99,32,102,40,97,41,32,123,32,109,46,112,117,116,40,97,44,32,49,41,59,32,125,32,102,117,110,99,32,109,97,105,110,40,41,32,123,32,105,102,32,120,32,60,32,49,32,123,32,120,32,61,32,50,59,32,125,32,121,32,61,32,112,97,114,32,102,40,48,44,32,51,41,59,32,125]
def Kx:Bd:=⟨1,1,[⟨2,0,0,0⟩,⟨1,1,0,0⟩,⟨11,2,0,2⟩,⟨12,0,0,0⟩,⟨1,0,0,0⟩,⟨17,0,0,0⟩]⟩
def Ky:Bd:=⟨0,1,[⟨4,0,0,0⟩,⟨1,1,0,0⟩,⟨9,0,0,0⟩,⟨16,6,0,0⟩,⟨1,2,0,0⟩,⟨5,0,0,0⟩,⟨1,0,0,0⟩,⟨1,3,0,0⟩,⟨13,2,2,0⟩,⟨1,0,0,0⟩,⟨17,0,0,0⟩]⟩
def alC:Cd:=⟨[Kx,Ky,dM 0 2],[0],1,0,0,1⟩
abbrev TG (b:Bd):Dat:=.agg [I b.args,I b.locals,.slice 4 (b.ins.map in4) true]
theorem Nx (b:Bd):DLe (TG b) (.agg (bdC b)):=.agg (.cons (.refl _) (.cons (.refl _) (.cons (.slice (.refl _)) (.refl _))))
theorem TI:DLe J2 (cdD wq):=.agg (.cons (.nil 3) (.cons (.nil 1) (.refl _)))
set_option maxRecDepth 8000 in
theorem TJ (p:Pg):runT oG.res (exec oG.code (oz []) Tree.done) [.tuple [pgD p,I 0],.tuple [cdD alC,I 0],.tuple [cdD wq,I 4],.bool true,.bool true,.bool true,.bool false,bT [0,1,2,1,0,1],.bool true,bT []] =
  some ([(eN,[.str alT]),(fP,[pgD p]),(fP,[.agg [.nil,.nil,.nil]]),(jR,[.agg (bdC Kx),TG Kx]),(jR,[.agg (bdC Ky),TG Ky]),(jd,[cdD alC]),(jd,[J2]),(dz,[cdD alC,I 0]),(pW,[bT [0,1,2,1,0,1],.slice 1 ([0,1,2,1,0,1].map fun i=>[I i]) true]),(dz,[cdD alC,I 3])],.bool true):=by kernel_rfl
theorem Vr:ofP (ofR alT).1=(alC,0):=by kernel_rfl
theorem Vs:(ofR alT).2=0:=by kernel_rfl
theorem Ny:wz alC=true:=by kernel_rfl
theorem Vt:fA alC 0=[0,1,2,1,0,1]:=by kernel_rfl
theorem tu:Ret P0 oD [] (.bool true):=by
 have h1:=ut alT (by decide);have h2:=mj (ofR alT).1 (Ia alT (by decide)).1;have h3:=mj AK ⟨by decide,by decide,by decide,by decide,by decide⟩;have e3:ofP AK=(wq,4):=by kernel_rfl
 have h4:=vA Kx Kx (by decide);have h5:=vA Ky Ky (by decide);have h6:=lE alC (by decide) (by decide);have h7:=lE wq (by decide) (by decide);have e7:wz wq=false:=by kernel_rfl
 have h8:=gG alC (by decide) 0 (fun b hb=>by injection hb with hb;subst hb;decide);have h9:=Eb [0,1,2,1,0,1] [0,1,2,1,0,1] (by decide);have h10:=gG alC (by decide) 3 (fun b hb=>by cases hb);have e10:fA alC 3=[]:=by kernel_rfl
 rw [Vr] at h2;rw [e3] at h3;rw [decide_eq_true rfl] at h4 h5 h9;rw [Ny] at h6;rw [e7] at h7;rw [Vt] at h8;rw [e10] at h10;have h1:Ret P0 eN [.str alT] (.tuple [pgD (ofR alT).1,I 0]):=by
  have e:QX (ofR alT) = .tuple [pgD (ofR alT).1,I (ofR alT).2]:=rfl;rw [e,Vs] at h1;exact h1
 exact LP zd _ _ rfl (TJ (ofR alT).1) ⟨h1,h2,h3.args (.cons QY (.refl _)),h4.args (.cons (.refl _) (.cons (Nx Kx) (.refl _))),h5.args (.cons (.refl _) (.cons (Nx Ky) (.refl _))),h6,h7.args (.cons TI (.refl _)),h8,h9.args (.cons (.refl _) (.cons (.slice (.refl _)) (.refl _))),h10,trivial⟩
end Uw.Tryz
namespace Uw.Tryz
open Go Uw
theorem Aq {p:Pg} (h:May p):(bF p).length<=p.ae.length:=by
 have h1:(bF p).Nodup:=ll _ _ List.nodup_nil;have h2:∀s∈bF p,s∈p.ae.map (·.name):=fun s hs=>by
  obtain ⟨x,hx,hk,rfl⟩:=nk.1 hs;obtain ⟨k,hk2,hf,_⟩:=h.call hx (.inr hk);obtain ⟨hk3,e⟩:=mF hf;exact List.mem_map.2 ⟨_,List.getElem_mem hk3,e⟩
 have:=List.Nodup.length_le_of_subset h1 h2;simpa using this
theorem yh (p:Pg) (k:Nat) (hk:k<p.ae.length):(db p).ae[k]? = some (dt p k p.ae[k]):=by
 have:=jC p p.ae 0 k hk;rw [Nat.zero_add] at this;show (fU p 0 p.ae++lz p p.ae.length (bF p))[k]? = _;rw [List.getElem?_append_left (by rw [eY];exact hk),this]
theorem Ar (p:Pg) (k:Nat) (hk:k<(bF p).length):(db p).ae[p.ae.length+k]? = some (dM (((dD p (bF p)[k]).getD 0:Nat):Int) ((p.ae.length+k:Nat):Int)):=by
 show (fU p 0 p.ae++lz p p.ae.length (bF p))[p.ae.length+k]? = _;rw [List.getElem?_append_right (by rw [eY];omega),eY,Nat.add_sub_cancel_left,uk _ _ _ _ hk]
theorem pC (p:Pg):(db p).ae.length=p.ae.length+(bF p).length:=by
 show (fU p 0 p.ae++lz p p.ae.length (bF p)).length=_;rw [List.length_append,eY,qk]
theorem uu (p:Pg) (k:Nat) (hk:k<(db p).ae.length):(∃h:k<p.ae.length,(db p).ae[k]=dt p k p.ae[k])\/∃j,∃h:j<(bF p).length,k=p.ae.length+j/\(db p).ae[k]=dM (((dD p (bF p)[j]).getD 0:Nat):Int) ((p.ae.length+j:Nat):Int):=by
 have hg:=List.getElem?_eq_getElem hk
 rcases Nat.lt_or_ge k p.ae.length with h|h
 ·rw [yh p k h] at hg
  injection hg with hg
  exact .inl ⟨h,hg.symm⟩
 ·obtain ⟨j,rfl⟩:=Nat.le.dest h
  have hj:j<(bF p).length:=by rw [pC] at hk;omega
  rw [Ar p j hj] at hg;injection hg with hg
  exact .inr ⟨j,hj,rfl,hg.symm⟩
theorem As (p:Pg):Named p (db p):=by
 refine ⟨kj p,rfl,rfl,rfl,fun k hk=>⟨by rw [pC];omega,?_⟩,fun k hk=>⟨by rw [pC];omega,?_⟩⟩
 ·rw [List.getD,yh p k hk];rfl
 ·rw [List.getD,Ar p k hk];rfl
structure Ib (b:Bd):Prop where
 two:2<=b.ins.length
 len:(iI b.ins).length=b.ins.length
 last:∃i,b.ins[b.ins.length - 1]? = some i/\i.op=17
 ret:∀(j:Nat) (h:j<b.ins.length),b.ins[j].op=17->(iI b.ins).getD j 0 = -1\/(iI b.ins).getD j 0=1
theorem Qy {p:Pg} (h:May p) (k:Nat) (hk:k<p.ae.length):Ib (dt p k p.ae[k]):=by
 obtain ⟨b1,b2,b3⟩:=lg h.formed k hk;obtain ⟨m,hm⟩:∃m:Nat,p.ae[k].body=(m:Int):=⟨p.ae[k].body.toNat,by omega⟩
 have hL:=ot h.formed;have hins:(dt p k p.ae[k]).ins=lay p.nodes (ky p k) m 0++[⟨1,0,0,0⟩,⟨17,0,0,0⟩]:=by rw [<- hm];rfl
 have hs:=(Qa (ky p k) hL (fun i hi=>(hQ h.formed i hi).2) m (by omega) 0).2 (.inr (by rw [<- hm,b3];rfl));obtain ⟨H,h1,h2⟩:=Qb hs;rw [<- hins] at h1;have hne:(dt p k p.ae[k]).ins≠[]:=by rw [hins];simp
 obtain ⟨h3,h4⟩:=I5 h1 hne;refine ⟨by rw [hins];simp,h3,⟨⟨17,0,0,0⟩,by rw [hins];simp,rfl⟩,fun j hj ho=>?_⟩
 rcases h4 j hj with h5|h5
 ·exact .inl h5
 ·right
  rw [h5];have hj2:j<(lay p.nodes (ky p k) m 0++[p01,r17]).length:=by rw [<- hins];exact hj
  exact h2 j hj2 (by simpa only [hins] using ho)
theorem Qz (f own:Int):Ib (dM f own):=by
 obtain ⟨h1,h2⟩:=Qc f own;have hne:(dM f own).ins≠[]:=by rw [dM];simp
 obtain ⟨h3,h4⟩:=I5 h1 hne;refine ⟨by rw [dM];simp,h3,⟨⟨17,0,0,0⟩,rfl,rfl⟩,fun j hj ho=>?_⟩
 rcases h4 j hj with h5|h5
 ·exact .inl h5
 ·right;rw [h5];exact h2 j hj ho
theorem Jf {p:Pg} (h:May p) (k:Nat) (hk:k<(db p).ae.length):Ib (db p).ae[k]:=by
 rcases uu p k hk with ⟨h1,e⟩|⟨j,h1,_,e⟩
 ·rw [e];exact Qy h k h1
 ·rw [e];exact Qz _ _
theorem Ic {p:Pg} (h:May p) (hr:Ec p) {c:Cd} (hc:Named p c) (k:Nat) (hk:k<p.ae.length):∀y∈(dt p k p.ae[k]).ins,cr c (dt p k p.ae[k]) y=true:=by
 obtain ⟨b1,b2,b3⟩:=lg h.formed k hk;obtain ⟨m,hm⟩:∃m:Nat,p.ae[k].body=(m:Int):=⟨p.ae[k].body.toNat,by omega⟩
 have hins:(dt p k p.ae[k]).ins=lay p.nodes (ky p k) m 0++[p01,r17]:=by rw [<- hm];rfl
 have hb:(dt p k p.ae[k]).locals=(((ao p).getD k []).length:Nat):=rfl;have hu:=zw h.formed;rw [hins];clear hins;generalize dt p k p.ae[k]=b at *;have hO:∀(i:Nat) (hi:i<p.nodes.length),(aU p).getD i 0=(k:Int)->∀y∈dP (ky p k) p.nodes[i],cr c b y=true:=fun i hi hd=>J6 h hr hc i k hi hk hd b hb;have hJ:∀a:Int,cr c b ⟨16,a,0,0⟩=true/\cr c b ⟨15,a,0,0⟩=true:=fun a=>⟨rfl,rfl⟩
 have h1:cr c b p01=true:=by
  show bm 0 4294967296=true;exact dm (by decide) (by decide)
 have h2:cr c b r17=true:=rfl;have hl:=lay_all (R:=fun y=>cr c b y=true) (ot h.formed) hJ (fun i=>(aU p).getD i 0=(k:Int)) (fun i hi hd j hj=>by rw [(hu.kid i hi j hj).1];exact hd) hO m (by omega) (hu.body k hk m (by omega) hm) 0;intro y hy
 rcases List.mem_append.1 hy with hy|hy
 ·exact hl y hy
 ·simp only [List.mem_cons,List.not_mem_nil,or_false] at hy
  rcases hy with rfl|rfl
  ·exact h1
  ·exact h2
theorem Ie {p:Pg} (h:May p) {c:Cd} (hc:Named p c) (j:Nat) (hj:j<(bF p).length):∀y∈(dM (((dD p (bF p)[j]).getD 0:Nat):Int) ((p.ae.length+j:Nat):Int)).ins,cr c (dM (((dD p (bF p)[j]).getD 0:Nat):Int) ((p.ae.length+j:Nat):Int)) y=true:=by
 obtain ⟨x,hx,hxk,e⟩:=nk.1 (List.getElem_mem hj);obtain ⟨m,hm,hf,_,ha⟩:=h.call hx (.inr hxk);rw [e] at hf;rw [hf];obtain ⟨n1,n2⟩:=hc.ae m hm;obtain ⟨n3,n4⟩:=hc.helps j hj;have ha:=ha hxk;rw [ha] at n2;show ∀y∈(dM ((m:Nat):Int) ((p.ae.length+j:Nat):Int)).ins,cr c (dM ((m:Nat):Int) ((p.ae.length+j:Nat):Int)) y=true;have hb:(dM ((m:Nat):Int) ((p.ae.length+j:Nat):Int)).locals=5:=rfl;have hins:(dM ((m:Nat):Int) ((p.ae.length+j:Nat):Int)).ins=(dM ((m:Nat):Int) ((p.ae.length+j:Nat):Int)).ins:=rfl
 conv at hins=>rhs;rw [dM]
 generalize dM ((m:Nat):Int) ((p.ae.length+j:Nat):Int)=b at *;rw [hins];clear hins;have t1:cr c b ⟨13,(m:Nat),1,3⟩=true:=by
  show (bm ((m:Nat):Int) (c.ae.length:Nat)&&decide (1=(c.ae.getD m default).args)&&(decide ((3:Int) = -1)||bm 3 b.locals))=true;rw [dm (by omega) (by omega),n2,hb];rfl
 have t2:cr c b ⟨13,(p.ae.length+j:Nat),2,3⟩=true:=by
  show (bm ((p.ae.length+j:Nat):Int) (c.ae.length:Nat)&&decide (2=(c.ae.getD (p.ae.length+j) default).args)&&(decide ((3:Int) = -1)||bm 3 b.locals))=true;rw [dm (by omega) (by omega),n4,hb];rfl
 have t3:cr c b ⟨13,(p.ae.length+j:Nat),2,4⟩=true:=by
  show (bm ((p.ae.length+j:Nat):Int) (c.ae.length:Nat)&&decide (2=(c.ae.getD (p.ae.length+j) default).args)&&(decide ((4:Int) = -1)||bm 4 b.locals))=true;rw [dm (by omega) (by omega),n4,hb];rfl
 have l2:∀a:Int,0<=a->a<5->cr c b ⟨2,a,0,0⟩=true:=fun a h0 h1=>by
  show bm a b.locals=true;rw [hb];exact dm h0 h1
 have l3:cr c b ⟨3,2,0,0⟩=true:=by
  show bm 2 b.locals=true;rw [hb];rfl
 have l1:∀a:Int,a=0\/a=1->cr c b ⟨1,a,0,0⟩=true:=fun a h=>by
  show bm a 4294967296=true;exact dm (by omega) (by omega)
 have k9:cr c b ⟨9,0,0,0⟩=true:=rfl;have k6:cr c b ⟨6,0,0,0⟩=true:=rfl;have k10:cr c b ⟨10,0,0,0⟩=true:=rfl;have k17:cr c b ⟨17,0,0,0⟩=true:=rfl;have k19:cr c b ⟨19,0,0,0⟩=true:=rfl;have k16:∀a:Int,cr c b ⟨16,a,0,0⟩=true:=fun a=>rfl;have a0:=l2 0 (by decide) (by decide);have a1:=l2 1 (by decide) (by decide);have a2:=l2 2 (by decide) (by decide);have a3:=l2 3 (by decide) (by decide);have a4:=l2 4 (by decide) (by decide);simp only [List.forall_mem_cons,List.not_mem_nil,false_imp_iff,implies_true,and_true];exact ⟨a0,a1,k9,k16 28,a0,l1 1 (.inr rfl),k6,a1,k10,k16 14,a0,t1,a3,k17,a0,a1,k19,l3,a0,a2,t2,a2,a1,t3,a3,a4,k6,k17,l1 0 (.inl rfl),k17⟩
theorem Kz {p:Pg} (h:May p) (hr:Ec p) (hfew:∀(k:Nat) (hk:k<p.ae.length),(dt p k p.ae[k]).ins.length<=400):wz (db p)=true:=by
 obtain ⟨k0,k1,k2,k3,k4⟩:=h.kinds;obtain ⟨m,hm,hf,ha⟩:=h.main;have hp:=Aq h;have hl:=pC p;have hmain:(db p).main=(m:Nat):=by show (((dD p gy).getD 0:Nat):Int)=_;rw [hf];rfl
 have hma:((db p).ae.getD (db p).main.toNat default).args=0:=by
  rw [hmain,List.getD,Int.toNat_natCast,yh p m hm];show ((p.ae[m].args.length:Nat):Int)=0;rw [ha];rfl
 have hcl:=kj p;have hcells:((db p).cells.all fun v=>bm v 4294967296)=true:=List.all_eq_true.2 fun v hv=>by
  obtain ⟨d,hd,rfl⟩:=List.mem_map.1 hv;have:=hr.decl d (List.mem_filter.1 hd).1;exact dm this.1 this.2
 have hs:(db p).ae.all (jn (db p))=true:=List.all_eq_true.2 fun b hb=>by
  obtain ⟨k,hk,rfl⟩:=List.mem_iff_getElem.1 hb;have hok:=Jf h k hk;have hne:∀n:Nat,2<=n->decide (n<1)=false:=fun n hn=>decide_eq_false (by omega);have hne2:decide ((iI (db p).ae[k].ins).length=0)=false:=decide_eq_false (by rw [hok.len];have:=hok.two;omega);rw [jn,hne _ hok.two,hne2]
  rcases uu p k hk with ⟨h1,e⟩|⟨j,h1,_,e⟩
  ·rw [e,decide_eq_false (show ¬400<(dt p k p.ae[k]).ins.length by have:=hfew k h1;omega)]
   have hL:=h.locals k h1;rw [h.lof k h1] at hL;obtain ⟨⟨⟨t,ht⟩,_,_⟩,h16⟩:=hL;have e1:decide ((dt p k p.ae[k]).args<0)=false:=decide_eq_false (by show ¬((p.ae[k].args.length:Nat):Int)<0;omega);have e2:decide ((dt p k p.ae[k]).locals<(dt p k p.ae[k]).args)=false:=decide_eq_false (by
    show ¬((((ao p).getD k []).length:Nat):Int)<((p.ae[k].args.length:Nat):Int);rw [ht,List.length_append];omega)
   have e3:decide (16<(dt p k p.ae[k]).locals)=false:=decide_eq_false (by show ¬(16:Int)<((((ao p).getD k []).length:Nat):Int);omega);rw [e1,e2,e3,List.all_eq_true.2 (Ic h hr (As p) k h1)];rfl
  ·rw [e,List.all_eq_true.2 (Ie h (As p) j h1)];rfl
 rw [wz,hs,hcells,hma,hmain,dm (show (0:Int)<=(m:Nat) by omega) (by omega),decide_eq_false (show ¬(db p).ae.length<1 by omega),decide_eq_false (show ¬32<(db p).ae.length by omega),decide_eq_false (show ¬16<(db p).cells.length by show ¬16<(DR p).length;omega)];have b1:bm (db p).maps 9=true:=dm (by show (0:Int)<=(dj p.decls 1:Nat);omega) (by show ((dj p.decls 1:Nat):Int)<9;omega);have b2:bm (db p).stacks 9=true:=dm (by show (0:Int)<=(dj p.decls 2:Nat);omega) (by show ((dj p.decls 2:Nat):Int)<9;omega);have b3:bm (db p).chans 9=true:=dm (by show (0:Int)<=(dj p.decls 3:Nat);omega) (by show ((dj p.decls 3:Nat):Int)<9;omega);rw [b1,b2,b3];rfl
end Uw.Tryz
