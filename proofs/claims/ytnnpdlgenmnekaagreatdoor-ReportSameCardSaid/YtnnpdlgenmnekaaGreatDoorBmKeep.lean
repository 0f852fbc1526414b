/- the abstract machine -/
import Derived.Test.YtnnpdlgenmnekaaGreatDoorBmCode
import Derived.Orders
import Derived.Test.YtnnpdlgenmnekaaGreatDoorBmStep
import Derived.ProofKit
import Derived.Below
import Derived.OpenShut
import Derived.ChangeSame
import Derived.Deep.Slices
set_option linter.unusedVariables false
set_option linter.unusedSimpArgs false
namespace Go.Bm
open Go.RowKit
def RO (s:St) (d:Option Tmp) (v:TV):St:=
 match d with
 |none=>s
 |some t=>⟨setL s.tmps t v,s.aB,s.aC⟩
section
variable {P:Program} {C:Cfg} {w:World} {R:Type} {Z:Base}
theorem LM (s:St) (d:Option Tmp) (v:TV) (K:St->Option R):put s d v K=K (RO s d v):=EC s d v K
def Av (dst:Option Tmp) (p:Prim) (aB:List (Nat×Box)) (aC:List (Nat×Row)):Option (TV×List (Nat×Box)):=
 match p with
 | .val v=>some (v,aB)
 | .load g sz key off=>match Ab aB key with
  |some b=>match CJ g sz b.cells off with
   |some v=>some (v,aB)
   |none=>none
  |none=>none
 | .store key off cs=>match Ab aB key with
  |some b=>if Nat.ble (off+cs.length) b.cells.length then some (.vD,upd aB key ⟨b.ty,splice b.cells off cs⟩)else none
  |none=>none
 | .new ty cs=>match dst with
  |some d=>match Ab aB d with
   |some _=>none
   |none=>some (.c (.ptr d 0),ins aB d ⟨ty,cs⟩)
  |none=>none
 | .newView _ ks l=>some (.c (.vC ks l),aB)
 | .rload g sz id idx sub=>match Ab aC id with
  |some r=>match CJ g sz (r.f idx) sub with
   |some v=>some (v,aB)
   |none=>none
  |none=>none
 | .call f args=>match C.spec f with
  |some g=>match E2 aC args with
   |some l=>match g (TV×Mem) l ⟨[],[]⟩ (λv m=>some (v,m))with
    |some (v,⟨[],[]⟩)=>if((!(args.any TV.hasOwn)||v.flat)&&v.plainB)=true then some (v,aB)else none
    |_=>none
   |none=>none
  |none=>none
 | .callD f args=>match C.spec f with
  |some g=>
   if(Ak (TV.inK (AV (cat AC.keys (cat TV.cellsOf args)) []) []) args&&Ak (λk=>Ak AC.calm (Ei aB k)) (AV (cat AC.keys (cat TV.cellsOf args)) [])&&BH (AV (cat AC.keys (cat TV.cellsOf args)) []))=true then
    match C0 aB (λk=>base+pos (AV (cat AC.keys (cat TV.cellsOf args)) []) k) (λi=>base+pos [] i) base (AV (cat AC.keys (cat TV.cellsOf args)) [])with
    |some G=>match g (TV×Mem) (args.map (TV.ren (λk=>base+pos (AV (cat AC.keys (cat TV.cellsOf args)) []) k) (λi=>base+pos [] i))) ⟨G,[]⟩ (λv m=>some (v,m))with
     |some (v,⟨D,[]⟩)=>
      if(Ak (λp:Nat×Box=>DZ D p.1) G&&Ak (λp:Nat×Box=>DZ G p.1) D&&BH (D.map (·.1))&&Ak (λp:Nat×Box=>Ak AC.calm p.2.cells) D&&v.plainB)=true then
       some (v,Cr (AV (cat AC.keys (cat TV.cellsOf args)) []) D aB)
      else none
     |_=>none
    |none=>none
   else none
  |none=>none
 |_=>none
theorem Zqf (D:Ai P C) {dst:Option Tmp} {p:Prim} (U:Prim.simple (some p)=true) (O:Prim.isApp (some p)=false) (M:Prim.isMk (some p)=false) (s:St) (K:TV->St->Option R):
  A0 C dst p s K=(Av (C:=C) dst p s.aB s.aC).bind λq=>K q.1 ⟨s.tmps,q.2,s.aC⟩:=by
 obtain⟨tm,aB,aC⟩:=s;cases p<;>simp only[Prim.simple]at U<;>try (simp at U;done)
 case appD=>simp[Prim.isApp]at O
 case callF=>simp[Prim.isMk]at M
 case newRow=>simp[Prim.isMk]at M
 case val v=>rfl
 case newView e ks l=>rfl
 case rload g sz id idx sub=>
  simp only[A0,Av];cases I:Ab aC id with
  |none=>rfl
  |some r=>
   dsimp only;cases S:CJ g sz (r.f idx) sub<;>rfl
 case load g sz key off=>
  simp only[A0,Av];cases I:Ab aB key with
  |none=>rfl
  |some b=>
   dsimp only;cases S:CJ g sz b.cells off<;>rfl
 case store key off cs=>
  simp only[A0,Av];cases I:Ab aB key with
  |none=>rfl
  |some b=>
   dsimp only;cases Nat.ble (off+cs.length) b.cells.length
   ·rfl
   ·simp only[ag,AW,dq,af]
 case new ty cs=>
  simp only[A0,Av];cases dst with
  |none=>rfl
  |some d=>
   dsimp only;cases I:Ab aB d with
   |some _=>rfl
   |none=>simp only[AW,af]
 case call f args=>
  simp only[A0,Av];cases I:C.spec f with
  |none=>rfl
  |some g=>
   dsimp only;cases S:E2 aC args with
   |none=>rfl
   |some l=>
    dsimp only;have L:=D.1 f g I;rw[L.nat];cases V:g (TV×Mem) l ⟨[],[]⟩ (λv m=>some (v,m))with
    |none=>rfl
    |some q=>
     obtain⟨v,⟨N,T⟩⟩:=q;simp only[af];cases N with
     |cons _ _=>rfl
     |nil=>
      cases T with
      |cons _ _=>rfl
      |nil=>
       dsimp only;cases((!(args.any TV.hasOwn)||v.flat)&&v.plainB)<;>rfl
 case callD f args=>
  simp only[A0,Av];cases I:C.spec f with
  |none=>rfl
  |some g=>
   dsimp only;simp only[AW];generalize AV (cat AC.keys (cat TV.cellsOf args)) []=keys;cases X:(Ak (TV.inK keys []) args&&Ak (λk=>Ak AC.calm (Ei aB k)) keys&&BH keys)
   ·simp
   ·simp only[ag,dq];cases S:C0 aB (λk=>base+pos keys k) (λi=>base+pos [] i) base keys with
    |none=>rfl
    |some N=>
     dsimp only;have L:=D.1 f g I;rw[L.nat];cases V:g (TV×Mem) (args.map (TV.ren (λk=>base+pos keys k) (λi=>base+pos [] i))) ⟨N,[]⟩ (λv m=>some (v,m))with
     |none=>rfl
     |some q=>
      obtain⟨v,⟨G,T⟩⟩:=q;simp only[af];cases T with
      |cons _ _=>rfl
      |nil=>
       dsimp only;cases(Ak (λp:Nat×Box=>DZ G p.1) N&&Ak (λp:Nat×Box=>DZ N p.1) G&&BH (G.map (·.1))&&Ak (λp:Nat×Box=>Ak AC.calm p.2.cells) G&&v.plainB)<;>rfl
theorem Bo {α:Type} {c:Bool} {p:Option α} {q:α} (h:cond c p none=some q):c=true/\p=some q:=by cases c<;>simp at h;exact⟨rfl,h⟩
def Qch (aC:List (Nat×Row)) (e:TypeId) (ks:List Kd) (bytes id:Nat) (x:AC):Option (TV×List (Nat×Row)):=
 match GX aC ks x with
 |some m=>match Ab aC id with
  |some r=>if(Cy ks r.ks&&Nat.beq r.ty e&&Nat.ble 1 bytes)=true then
    if Nat.ble ((r.l++m).length*bytes) 140737488355328=true then some (.c (.own id r.ks.length (r.l++m).length),upd aC id ⟨e,r.ks,r.l++m⟩)else none
   else none
  |none=>none
 |none=>none
def Ww (id:Nat) (tm:List TV) (bx:List (Nat×Box)) (aC:List (Nat×Row)):St:=⟨tm.map (TV.kill id),bx.map λp=>(p.1,p.2.kill id),aC⟩
def Qkx (aC:List (Nat×Row)) (e:TypeId) (ks:List Kd) (bytes d:Nat) (x:AC):Option (TV×List (Nat×Row)):=
 match GX aC ks x with
 |some m=>match Ab aC d with
  |some _=>none
  |none=>if(Nat.ble 1 ks.length&&Nat.ble 1 bytes)=true then
    if Nat.ble (m.length*bytes) 140737488355328=true then some (.c (.own d ks.length m.length),ins aC d ⟨e,ks,m⟩)else none
   else none
 |none=>none
def Ka (dst:Option Tmp):Prim->Option Nat
 | .appD _ _ _ (.own id _ _) _=>some id
 | .appD _ _ _ .nilSl _=>dst
 |_=>none
def Kx (dst:Option Tmp) (aC:List (Nat×Row)):Prim->Option (TV×List (Nat×Row))
 | .appD e ks bytes (.own id _ _) x=>Qch aC e ks bytes id x
 | .appD e ks bytes .nilSl x=>match dst with
  |some d=>Qkx aC e ks bytes d x
  |none=>none
 |_=>none
def mkG (dst:Option Tmp) (p:Prim):Option (TV×Option (Nat×Row)):=
 match p with
 | .newRow e ks l=>match dst with
  |some d=>some (.c (.own (C.rowAs d) ks.length l.length),some (C.rowAs d,⟨e,ks,l⟩))
  |none=>none
 | .callF f args=>match C.spec f with
  |some g=>if Ak TV.plainB args=true then match g (TV×Mem) args ⟨[],[]⟩ (λv m=>some (v,m))with
    |some (v,⟨[],[]⟩)=>if v.plainB=true then some (v,none)else none
    |some (.v false [.own j _ _],⟨[],[(k,r)]⟩)=>if Nat.beq j k=true then some (.c (.own (Hl (dst.getD 0)) r.ks.length r.l.length),some (Hl (dst.getD 0),r))else none
    |_=>none
   else none
  |none=>none
 |_=>none
def mkD (dst:Option Tmp) (p:Prim) (aC:List (Nat×Row)):Option (TV×List (Nat×Row)):=
 match mkG (C:=C) dst p with
 |some (v,none)=>some (v,aC)
 |some (v,some (k,r))=>match Ab aC k with
  |some _=>none
  |none=>some (v,ins aC k r)
 |none=>none
def EI (dst:Option Tmp) (p:Prim) (s:St):Option (TV×St):=
 bif Prim.isApp (some p)then match Ka dst p with
  |some id=>(Kx dst s.aC p).map λq=>(q.1,Ww id s.tmps s.aB q.2)
  |none=>none
 else bif Prim.isMk (some p)then(mkD (C:=C) dst p s.aC).map λq=>(q.1,⟨s.tmps,s.aB,q.2⟩)
 else(Av (C:=C) dst p s.aB s.aC).map λq=>(q.1,⟨s.tmps,q.2,s.aC⟩)
theorem Q45 (D:Ai P C) {dst:Option Tmp} {p:Prim} (S:Prim.simple (some p)=true) (s:St) (K:TV->St->Option R):
  A0 C dst p s K=(EI (C:=C) dst p s).bind λq=>K q.1 q.2:=by
 cases I:Prim.isApp (some p)with
 |false=>
  cases L:Prim.isMk (some p)with
  |false=>
   rw[Zqf D S (by rw[I]) L];unfold EI;rw[I,L];simp only[aq];cases Av (C:=C) dst p s.aB s.aC<;>rfl
  |true=>
   obtain⟨tm,aB,aC⟩:=s;unfold EI;rw[I,L];simp only[aq,ag];cases p<;>simp[Prim.isMk]at L
   case newRow e ks l=>
    simp only[A0,mkD,mkG];cases dst with
    |none=>rfl
    |some d=>
     dsimp only;cases Ab aC (C.rowAs d)with
     |some _=>rfl
     |none=>simp only[AW];rfl
   case callF f args=>
    simp only[A0,mkD,mkG];cases T:C.spec f with
    |none=>rfl
    |some g=>
     dsimp only;cases Y:Ak TV.plainB args
     ·rfl
     simp only[ag,dq];have M:=D.1 f g T;rw[M.nat];cases h3:g (TV×Mem) args ⟨[],[]⟩ (λv m=>some (v,m))with
     |none=>rfl
     |some q=>
      obtain⟨v,⟨U,V⟩⟩:=q;simp only[af];cases U with
      |cons _ _=>cases v<;>rfl
      |nil=>
       cases V with
       |nil=>
        dsimp only;cases v.plainB<;>rfl
       |cons p l=>
        obtain⟨k,r⟩:=p;cases l with
        |cons _ _=>rfl
        |nil=>
         dsimp only;split
         ·rename_i j w0 n0;cases G:Nat.beq j k
          ·simp only[G,dl,gq];rfl
          ·simp only[ag,G,dq];cases O:Ab aC (Hl (dst.getD 0))with
           |some _=>simp only[O];rfl
           |none=>simp only[AW,O];rfl
         ·rename_i N;cases v with
          |vD=>rfl
          |tup ps=>rfl
          |v g cs=>
           cases g with
           |true=>rfl
           |false=>
            cases cs with
            |nil=>rfl
            |cons a l=>
             cases l with
             |cons _ _=>cases a<;>rfl
             |nil=>cases a<;>first|rfl|exact absurd rfl (N _ _ _)
 |true=>
  obtain⟨tm,aB,aC⟩:=s;cases p<;>simp[Prim.isApp]at I
  rename_i e ks bytes X x;unfold EI;simp only[Prim.isApp,ag,A0];cases X
  case own id w' n=>
   dsimp only[Ka,Kx,Qch];cases GX aC ks x with
   |none=>rfl
   |some m=>
    dsimp only;cases Ab aC id with
    |none=>rfl
    |some r=>
     dsimp only;cases(Cy ks r.ks&&Nat.beq r.ty e&&Nat.ble 1 bytes)
     ·rfl
     ·simp only[ag,dq];cases Nat.ble ((r.l++m).length*bytes) 140737488355328
      ·rfl
      ·simp only[ag,dq,AW];rfl
  case nilSl=>
   dsimp only[Ka,Kx];cases dst with
   |none=>cases GX aC ks x<;>rfl
   |some d=>
    dsimp only[Qkx];cases GX aC ks x with
    |none=>rfl
    |some m=>
     dsimp only;cases Ab aC d with
     |some _=>rfl
     |none=>
      dsimp only;cases(Nat.ble 1 ks.length&&Nat.ble 1 bytes)
      ·rfl
      ·simp only[ag,dq];cases Nat.ble (m.length*bytes) 140737488355328
       ·rfl
       ·simp only[ag,dq,AW];rfl
  all_goals
   dsimp only[Ka];cases GX aC ks x<;>rfl
theorem Zj2 (D:Ai P C) {dst:Option Tmp} {p:Prim} {s:St} {K:TV->St->Option R} {r:R} (h:A0 C dst p s K=some r):∃v L,K v L=some r:=by
 obtain⟨tm,aB,aC⟩:=s;cases p<;>simp only[A0]at h
 case val v=>exact⟨_,_,h⟩
 case newView e ks l=>exact⟨_,_,h⟩
 case load g sz key off=>
  repeat' split at h
  all_goals first|(simp at h;done)|exact⟨_,_,h⟩
 case store key off cs=>
  split at h
  ·rename_i b _;cases hb:Nat.ble (off+cs.length) b.cells.length<;>rw[hb]at h
   ·simp at h
   ·simp only[ag,AW]at h;exact⟨_,_,h⟩
  ·simp at h
 case new ty cs=>
  split at h
  ·split at h
   ·simp at h
   ·simp only[AW]at h;exact⟨_,_,h⟩
  ·simp at h
 case newS ty n cs=>
  split at h
  ·split at h
   ·simp at h
   ·simp only[AW]at h;exact⟨_,_,h⟩
  ·simp at h
 case rload g sz id idx sub=>
  repeat' split at h
  all_goals first|(simp at h;done)|exact⟨_,_,h⟩
 case rstore id idx sub cs=>
  split at h
  ·rename_i M _;cases hb:(Nat.ble (sub+cs.length) M.w&&Ak AC.plain cs)<;>rw[hb]at h
   ·simp at h
   ·simp only[ag]at h;split at h
    ·simp only[AW]at h;exact⟨_,_,h⟩
    ·simp at h
  ·simp at h
 case newRow e ks l=>
  split at h
  ·split at h
   ·simp at h
   ·simp only[AW]at h;exact⟨_,_,h⟩
  ·simp at h
 case make e ks bytes n z=>
  split at h
  ·split at h
   ·simp at h
   ·obtain⟨_,h⟩:=Bo h;simp only[AW]at h;exact⟨_,_,h⟩
  ·simp at h
 case cutR id a=>
  split at h
  ·obtain⟨_,h⟩:=Bo h;simp only[AW]at h;exact⟨_,_,h⟩
  ·simp at h
 case append e ks bytes s x=>
  split at h
  ·split at h
   ·split at h
    ·split at h
     ·simp at h
     ·obtain⟨_,h⟩:=Bo h;obtain⟨_,h⟩:=Bo h;simp only[AW]at h;exact⟨_,_,h⟩
    ·simp at h
   ·split at h
    ·obtain⟨_,h⟩:=Bo h;obtain⟨_,h⟩:=Bo h;simp only[AW]at h;exact⟨_,_,h⟩
    ·simp at h
   ·simp at h
  ·simp at h
 case call f args=>
  split at h
  ·rename_i g G;split at h
   ·obtain⟨v,m,h',_⟩:=(D.1 f g G).run h;split at h'
    ·obtain⟨_,h'⟩:=Bo h';exact⟨_,_,h'⟩
    ·simp at h'
   ·simp at h
  ·simp at h
 case callM f args=>
  split at h
  ·rename_i g G;cases I:C.keepR f<;>rw[I]at h
   case true=>
    simp only[ag]at h;unfold Ru at h;split at h
    ·split at h
     ·obtain⟨v,m,h',_⟩:=(D.1 f g G).run h;split at h'
      ·obtain⟨_,h'⟩:=Bo h';simp only[AW]at h';exact⟨_,_,h'⟩
      ·simp at h'
     ·simp at h
    ·simp at h
   simp only[aq]at h;simp only[AW]at h;obtain⟨_,h⟩:=Bo h;split at h
   ·obtain⟨v,m,h',_⟩:=(D.1 f g G).run h;obtain⟨_,h'⟩:=Bo h';exact⟨_,_,h'⟩
   ·simp at h
  ·simp at h
 case callF f args=>
  split at h
  ·rename_i g G;obtain⟨_,h⟩:=Bo h;obtain⟨v,m,h',_⟩:=(D.1 f g G).run h;split at h'
   ·obtain⟨_,h'⟩:=Bo h';exact⟨_,_,h'⟩
   ·split at h'
    ·obtain⟨_,h'⟩:=Bo h';split at h'
     ·simp at h'
     ·simp only[AW]at h';exact⟨_,_,h'⟩
    ·simp at h'
   ·simp at h'
  ·simp at h
 case appD e ks bytes s x=>
  split at h
  ·split at h
   ·split at h
    ·obtain⟨_,h⟩:=Bo h;obtain⟨_,h⟩:=Bo h;simp only[AW]at h;exact⟨_,_,h⟩
    ·simp at h
   ·split at h
    ·split at h
     ·simp at h
     ·obtain⟨_,h⟩:=Bo h;obtain⟨_,h⟩:=Bo h;simp only[AW]at h;exact⟨_,_,h⟩
    ·simp at h
   ·simp at h
  ·simp at h
 case callD f args=>
  split at h
  ·rename_i g G;simp only[AW]at h;obtain⟨_,h⟩:=Bo h;split at h
   ·obtain⟨v,m,h',_⟩:=(D.1 f g G).run h;split at h'
    ·obtain⟨_,h'⟩:=Bo h';exact⟨_,_,h'⟩
    ·simp at h'
   ·simp at h
  ·simp at h
theorem Zb8 (I:Ai P C) (dst:Option Tmp) (p:Prim) (s:St) (K:TV->St->Option R):A0 C dst p s K=(A0 C dst p s λv S=>some (v,S)).bind λq=>K q.1 q.2:=by
 obtain⟨tm,aB,aC⟩:=s;cases p<;>simp only[A0,AW]
 case val v=>rfl
 case newView e ks l=>rfl
 case load g sz key off=>
  cases Ab aB key with
  |none=>rfl
  |some b=>
   dsimp only;cases CJ g sz b.cells off<;>rfl
 case store key off cs=>
  cases Ab aB key with
  |none=>rfl
  |some b=>
   dsimp only;cases Nat.ble (off+cs.length) b.cells.length<;>rfl
 case new ty cs=>
  cases dst with
  |none=>rfl
  |some d=>
   dsimp only;cases Ab aB d<;>rfl
 case newS ty n cs=>
  cases dst with
  |none=>rfl
  |some d=>
   dsimp only;cases Ab aB d<;>rfl
 case rload g sz id idx sub=>
  cases Ab aC id with
  |none=>rfl
  |some r=>
   dsimp only;cases CJ g sz (r.f idx) sub<;>rfl
 case rstore id idx sub cs=>
  cases Ab aC id with
  |none=>rfl
  |some r=>
   dsimp only;cases(Nat.ble (sub+cs.length) r.w&&Ak AC.plain cs)
   ·rfl
   ·simp only[ag];cases Fj r.ks (splice (r.f idx) sub cs)<;>rfl
 case newRow e ks l=>
  cases dst with
  |none=>rfl
  |some d=>
   dsimp only;cases Ab aC (C.rowAs d)<;>rfl
 case make e ks bytes n z=>
  cases dst with
  |none=>rfl
  |some d=>
   dsimp only;cases Ab aC d with
   |some _=>rfl
   |none=>
    dsimp only;cases(decide (0<=n)&&decide (n*(bytes:Int)<=140737488355328))<;>rfl
 case cutR id a=>
  cases Ab aC id with
  |none=>rfl
  |some r=>
   dsimp only;cases Nat.ble a r.l.length<;>rfl
 case append e ks bytes s x=>
  cases GX aC ks x with
  |none=>rfl
  |some m=>
   dsimp only;cases s
   case nilSl=>
    dsimp only;cases dst with
    |none=>rfl
    |some d=>
     dsimp only;cases Ab aC d with
     |some _=>rfl
     |none=>
      dsimp only;cases(Nat.ble 1 ks.length&&Nat.ble 1 bytes)
      ·rfl
      ·simp only[ag];cases Nat.ble (m.length*bytes) 140737488355328<;>rfl
   case own id w' n=>
    dsimp only;cases Ab aC id with
    |none=>rfl
    |some r=>
     dsimp only;cases(Cy ks r.ks&&Nat.beq r.ty e&&Nat.ble 1 bytes)
     ·rfl
     ·simp only[ag];cases Nat.ble ((r.l++m).length*bytes) 140737488355328<;>rfl
   all_goals rfl
 case appD e ks bytes s x=>
  cases GX aC ks x with
  |none=>rfl
  |some m=>
   dsimp only;cases s
   case nilSl=>
    dsimp only;cases dst with
    |none=>rfl
    |some d=>
     dsimp only;cases Ab aC d with
     |some _=>rfl
     |none=>
      dsimp only;cases(Nat.ble 1 ks.length&&Nat.ble 1 bytes)
      ·rfl
      ·simp only[ag];cases Nat.ble (m.length*bytes) 140737488355328<;>rfl
   case own id w' n=>
    dsimp only;cases Ab aC id with
    |none=>rfl
    |some r=>
     dsimp only;cases(Cy ks r.ks&&Nat.beq r.ty e&&Nat.ble 1 bytes)
     ·rfl
     ·simp only[ag];cases Nat.ble ((r.l++m).length*bytes) 140737488355328<;>rfl
   all_goals rfl
 case call f args=>
  cases N:C.spec f with
  |none=>rfl
  |some g=>
   dsimp only;cases E2 aC args with
   |none=>rfl
   |some l=>
    dsimp only;have D:=I.1 f g N;rw[D.nat,D.nat (TV×St)];cases g (TV×Mem) l ⟨[],[]⟩ (λv m=>some (v,m))with
    |none=>rfl
    |some q=>
     obtain⟨v,⟨M,O⟩⟩:=q;simp only[af];cases M with
     |cons _ _=>rfl
     |nil=>
      cases O with
      |cons _ _=>rfl
      |nil=>
       dsimp only;cases((!(args.any TV.hasOwn)||v.flat)&&v.plainB)<;>rfl
 case callM f args=>
  cases N:C.spec f with
  |none=>rfl
  |some g=>
   dsimp only;have D:=I.1 f g N;cases T:C.keepR f
   case true=>
    simp only[ag,Ru];cases Qcj args with
    |none=>rfl
    |some id=>
     dsimp only;cases Ab aC id with
     |none=>rfl
     |some r=>
      dsimp only;rw[D.nat,D.nat (TV×St)];cases g (TV×Mem) (args.map (TV.ren (λk=>base+pos [] k) (λi=>base+pos [id] i))) ⟨[],[(base,r)]⟩ (λv m=>some (v,m))with
      |none=>rfl
      |some q=>
       obtain⟨v,⟨M,O⟩⟩:=q;simp only[af];cases M with
       |cons _ _=>rfl
       |nil=>
        cases O with
        |nil=>rfl
        |cons p l=>
         obtain⟨k,r'⟩:=p;cases l with
         |cons _ _=>rfl
         |nil=>
          dsimp only;cases(Nat.beq k base&&Nat.beq r'.ty r.ty&&Cy r'.ks r.ks&&v.plainB)
          ·rfl
          ·simp only[ag,AW];rfl
   simp only[aq];generalize Lc aB 4 (AV (cat AC.keys (cat TV.cellsOf args)) [])=keys;generalize NA aB (cat TV.cellsOf args) keys=ids;cases(Ak (TV.inK keys ids) args&&Ak (λk=>Ak (AC.inK keys ids) (Ei aB k)) keys&&BH keys&&BH ids)
   ·rfl
   ·simp only[ag];cases C0 aB (λk=>base+pos keys k) (λi=>base+pos ids i) base keys with
    |none=>cases EX aC base ids<;>rfl
    |some M=>
     cases EX aC base ids with
     |none=>rfl
     |some O=>
      dsimp only;rw[D.nat,D.nat (TV×St)];cases g (TV×Mem) (args.map (TV.ren (λk=>base+pos keys k) (λi=>base+pos ids i))) ⟨M,O⟩ (λv m=>some (v,m))with
      |none=>rfl
      |some q=>
       obtain⟨v,⟨G,L⟩⟩:=q;simp only[af];cases(Ak (λp:Nat×Box=>DZ G p.1) M&&BH (G.map (·.1))&&BH (L.map (·.1))&&Ak (λk=>HN aB (Bs keys (A2 keys G) (dst.getD 0) k)) (A2 keys G)&&Ak (λk=>HN aC (Bs ids (A2 ids L) (dst.getD 0) k)) (A2 ids L)&&Nat.ble (A2 keys G).length 100&&Nat.ble (A2 ids L).length 100)<;>rfl
 case callF f args=>
  cases N:C.spec f with
  |none=>rfl
  |some g=>
   dsimp only;have D:=I.1 f g N;cases Ak TV.plainB args
   ·rfl
   ·simp only[ag];rw[D.nat,D.nat (TV×St)];cases g (TV×Mem) args ⟨[],[]⟩ (λv m=>some (v,m))with
    |none=>rfl
    |some q=>
     obtain⟨v,⟨M,O⟩⟩:=q;simp only[af];cases M with
     |cons _ _=>rfl
     |nil=>
      cases O with
      |nil=>dsimp only;cases v.plainB<;>rfl
      |cons p l=>
       obtain⟨k,r⟩:=p;cases l with
       |cons _ _=>rfl
       |nil=>
        dsimp only;split
        ·rename_i j w0 n0;cases Nat.beq j k
         ·rfl
         ·simp only[ag];cases Ab aC (Hl (dst.getD 0))<;>rfl
        ·rfl
 case callD f args=>
  cases N:C.spec f with
  |none=>rfl
  |some g=>
   dsimp only;have D:=I.1 f g N;generalize AV (cat AC.keys (cat TV.cellsOf args)) []=keys;cases(Ak (TV.inK keys []) args&&Ak (λk=>Ak AC.calm (Ei aB k)) keys&&BH keys)
   ·rfl
   ·simp only[ag];cases C0 aB (λk=>base+pos keys k) (λi=>base+pos [] i) base keys with
    |none=>rfl
    |some M=>
     dsimp only;rw[D.nat,D.nat (TV×St)];cases g (TV×Mem) (args.map (TV.ren (λk=>base+pos keys k) (λi=>base+pos [] i))) ⟨M,[]⟩ (λv m=>some (v,m))with
     |none=>rfl
     |some q=>
      obtain⟨v,⟨G,L⟩⟩:=q;simp only[af];cases L with
      |cons _ _=>rfl
      |nil=>
       dsimp only;cases(Ak (λp:Nat×Box=>DZ G p.1) M&&Ak (λp:Nat×Box=>DZ M p.1) G&&BH (G.map (·.1))&&Ak (λp:Nat×Box=>Ak AC.calm p.2.cells) G&&v.plainB)<;>rfl
theorem Un:∀(l:List Nat) (s:St) (K:St->Option R),In l s K=(In l s some).bind K
 |[],s,K=>rfl
 |id::l,⟨tm,aB,aC⟩,K=>by
  simp only[In,AW];cases Ab aC id with
  |none=>exact Un l _ K
  |some r=>exact Un l _ K
theorem Qyp (k o:Nat) (e:TypeId) (s:St) (K:St->Option R):LW P k o e s K=(LW P k o e s some).bind K:=by
 obtain⟨tm,aB,aC⟩:=s;simp only[LW,AW];cases Ab aB k with
 |none=>rfl
 |some b=>
  dsimp only;cases nth .vD b.cells o<;>try rfl
  dsimp only;cases FU P 8 e with
  |none=>rfl
  |some ks=>
   dsimp only;cases(Nat.ble 1 ks.length&&HN aC (1000000+1000*k+o))<;>rfl
theorem Qdg:∀(l:List (Nat×Nat×TypeId)) (s:St) (K:St->Option R),IS P l s K=(IS P l s some).bind K
 |[],s,K=>rfl
 |(k,o,e)::l,s,K=>by
  simp only[IS];rw[Qyp,Qyp (K:=λD=>IS P l D some)];cases LW P k o e s some with
  |none=>rfl
  |some D=>exact Qdg l D K
theorem U1:∀(l:List (Nat×TypeId)) (s:St) (K:St->Option R),IP P l s K=(IP P l s some).bind K
 |[],s,K=>rfl
 |(t,e)::l,⟨tmps,aB,aC⟩,K=>by
  simp only[IP];split
  ·split
   ·rename_i ks _ _;cases Nat.ble 1 ks.length
    ·rfl
    ·simp only[ag,AW];exact U1 l _ K
   ·rfl
  ·exact U1 l _ K
theorem Zoy (s:St) (K:St->Option R):HP P C s K=(HP P C s some).bind K:=by
 simp only[HP,AW];rw[Qdg]
 conv=>rhs;rw[Qdg]
 cases IS P (cat (λp:Nat×Box=>bif AH C.ownBut p.1 then []else(C.ownOff p.2.ty).map λq=>(p.1,q.1,q.2)) s.aB) s some with
 |none=>rfl
 |some D=>exact U1 _ _ K
theorem Qvt (o:Op) (s:St) (K:St->Option R):Ie P C o s K=(Ie P C o s some).bind K:=by
 unfold Ie;rw[Un]
 conv=>rhs;rw[Un]
 cases In (Q77 C (AG s.tmps) o) s some with
 |none=>rfl
 |some D=>
  simp only[af];cases Wj C o
  ·rfl
  ·exact Zoy D K
theorem Zeg (I:Ai P C) (pre:Bool) (ops:List Oper) (o:Oper) (s:St) (K:Option Prim->St->Option R):E0 P C pre ops o s K=(E0 P C pre ops o s λp D=>some (p,D)).bind λq=>K q.1 q.2:=by
 have L:∀s:St,((bif pre then Ie P C o.op s else λK=>K s) λs=>opK P C (AG s.tmps) o.dst o.op λp=>A0 C o.dst (p.dr pre) s λv D=>put D o.dst v (K (some (p.dr pre))))=
   ((bif pre then Ie P C o.op s else λK=>K s) λs=>opK P C (AG s.tmps) o.dst o.op λp=>A0 C o.dst (p.dr pre) s λv D=>put D o.dst v ((λp D=>some (p,D)) (some (p.dr pre)))).bind λq=>K q.1 q.2:=by
  have M:∀s:St,(opK P C (AG s.tmps) o.dst o.op λp=>A0 C o.dst (p.dr pre) s λv D=>put D o.dst v (K (some (p.dr pre))))=(opK P C (AG s.tmps) o.dst o.op λp=>A0 C o.dst (p.dr pre) s λv D=>put D o.dst v ((λp D=>some (p,D)) (some (p.dr pre)))).bind λq=>K q.1 q.2:=by
   intro s;rw[Qc]
   conv=>rhs;rw[Qc]
   cases opK P C (AG s.tmps) o.dst o.op some with
   |none=>rfl
   |some p=>
    simp only[af];rw[Zb8 I]
    conv=>rhs;rw[Zb8 I]
    cases A0 C o.dst (p.dr pre) s λv D=>some (v,D)with
    |none=>rfl
    |some q=>simp only[af,LM]
  intro s;cases pre
  ·exact M s
  ·simp only[ag];rw[Qvt]
   conv=>rhs;rw[Qvt]
   cases Ie P C o.op s some with
   |none=>rfl
   |some D=>exact M D
 have G:∀s:St,put s o.dst (.tup []) (K none)=(put s o.dst (.tup []) ((λp D=>some (p,D)) none)).bind λq=>K q.1 q.2:=by
  intro s;simp only[LM,af]
 unfold E0 Pq;cases o.guard with
 |none=>exact L s
 |some N=>
  obtain⟨j,want⟩:=N;dsimp only;cases ops[j]? with
  |none=>rfl
  |some O=>
   dsimp only;cases O.dst with
   |none=>rfl
   |some t=>
    dsimp only;split
    ·rename_i g _;cases g
     ·simp only[aq];rw[EC]
      conv=>rhs;rw[EC]
      cases want
      ·exact L _
      ·exact G _
     ·simp only[ag];rw[EC]
      conv=>rhs;rw[EC]
      cases want
      ·exact G _
      ·exact L _
    ·exact G _
    ·rfl
def BR (ops:List Oper) (o:Oper) (tm:List TV):Option Bool:=
 match o.guard with
 |none=>some true
 |some (j,want)=>match ops[j]? with
  |some D=>match D.dst with
   |some t=>match nth .vD tm t with
    | .c (.bool g)=>some (g==want)
    | .tup []=>some false
    |_=>none
   |none=>none
  |none=>none
def B8 (ops:List Oper) (o:Oper) (s:St):Option (Option Prim×St):=
 match BR ops o s.tmps with
 |some true=>(opK P C (AG s.tmps) o.dst o.op some).bind λp=>(EI (C:=C) o.dst (p.dr false) s).bind λq=>some (some (p.dr false),RO q.2 o.dst q.1)
 |some false=>some (none,RO s o.dst (.tup []))
 |none=>none
theorem Q48 {tm:List TV} {t:Nat} {v:TV} (h:nth .vD tm t=v) (G:v≠ .vD):setL tm t v=tm:=by
 rw[BV,List.getD]at h;rw[Im];cases D:tm[t]? with
 |none=>rw[D]at h;simp at h;exact absurd h.symm G
 |some u=>
  rw[D]at h;simp at h;subst h;apply ig;intro i;rw[i7];split
  ·rename_i e;subst e;split
   ·exact D.symm
   ·rename_i I;rw[db (by omega)]
  ·rfl
theorem Zyg (L:Ai P C) {ops:List Oper} {o:Oper} {s:St} {K:Option Prim->St->Option R} {r:R} (h:E0 P C false ops o s K=some r):
  (∃p G,B8 (P:=P) (C:=C) ops o s=some (p,G)/\K p G=some r)\/(∃p G,K (some p) G=some r/\Prim.simple (some p)=false):=by
 have M:∀s1:St,BR ops o s.tmps=some true->s1=s->(opK P C (AG s1.tmps) o.dst o.op λp=>A0 C o.dst (p.dr false) s1 λv G=>put G o.dst v (K (some (p.dr false))))=some r->
   (∃p G,B8 (P:=P) (C:=C) ops o s=some (p,G)/\K p G=some r)\/(∃p G,K (some p) G=some r/\Prim.simple (some p)=false):=by
  rintro s1 O rfl h;rw[Qc]at h;cases T:opK P C (AG s1.tmps) o.dst o.op some with
  |none=>rw[T]at h;simp at h
  |some p=>
   rw[T]at h;simp only[af]at h;cases V:Prim.simple (some (p.dr false))
   ·right;obtain⟨v,G,X⟩:=Zj2 L h;rw[LM]at X;exact⟨p.dr false,_,X,V⟩
   ·left;rw[Q45 L V]at h;cases U:EI (C:=C) o.dst (p.dr false) s1 with
    |none=>rw[U]at h;simp at h
    |some q=>
     rw[U]at h;simp only[af,LM]at h;refine⟨some (p.dr false),_,?_,h⟩;simp only[B8,O,T,af,U]
 have I:∀s1:St,BR ops o s.tmps=some false->s1=s->put s1 o.dst (.tup []) (K none)=some r->
   (∃p G,B8 (P:=P) (C:=C) ops o s=some (p,G)/\K p G=some r)\/(∃p G,K (some p) G=some r/\Prim.simple (some p)=false):=by
  rintro s1 O rfl h;rw[LM]at h;exact .inl ⟨none,_,by simp only[B8,O],h⟩
 unfold E0 Pq at h;cases S:o.guard with
 |none=>
  rw[S]at h;exact M s (by simp[BR,S]) rfl h
 |some jw=>
  obtain⟨j,want⟩:=jw;rw[S]at h;simp only at h;split at h
  ·rename_i oj Y;split at h
   ·rename_i t ht;split at h
    ·rename_i g N;have O:BR ops o s.tmps=some (g==want):=by simp only[BR,S,Y,ht,N]
     have D:∀b,g=b->(⟨setL s.tmps t (.c (.bool b)),s.aB,s.aC⟩:St)=s:=by
      rintro b rfl;rw[Q48 N (by simp)]
     cases g
     ·simp only[aq]at h;rw[EC]at h;dsimp only at h;cases want
      ·exact M _ (by rw[O];rfl) (D false rfl) h
      ·exact I _ (by rw[O];rfl) (D false rfl) h
     ·simp only[ag]at h;rw[EC]at h;dsimp only at h;cases want
      ·exact I _ (by rw[O];rfl) (D true rfl) h
      ·exact M _ (by rw[O];rfl) (D true rfl) h
    ·rename_i N;exact I _ (by simp only[BR,S,Y,ht,N]) rfl h
    ·simp at h
   ·simp at h
  ·simp at h
def H4 (P:Program) (C:Cfg) (ops:List Oper) (m:List Nat) (i:Nat) (o:Oper) (s:St):Option (Option Prim×St):=
 if Da ops m i=true then E0 P C true ops o s λp D=>some (p,D)else B8 (P:=P) (C:=C) ops o s
def Rg (P:Program) (C:Cfg) (ops:List Oper) (m:List Nat):List (Nat×Oper×Option Prim)->St->St->Prop
 |[],s,D=>s=D
 |(i,o,p)::l,s,D=>∃s1,H4 P C ops m i o s=some (p,s1)/\Rg P C ops m l s1 D
theorem Zz (D:Ai P C) {ops:List Oper} {m:List Nat}:∀(l:List Oper) (i:Nat) (s:St) (K:List (Oper×Option Prim)->St->Option R) (r:R),Mm P C ops m l i s K=some r->
  (∃(ps:List (Nat×Oper×Option Prim)) (G:St),ps.map (·.2.1)=l/\ps.map (·.1)=List.range' i l.length/\Rg P C ops m ps s G/\K (ps.map (·.2)) G=some r)\/
  (∃(acc:List (Oper×Option Prim)) (G:St),K acc G=some r/\∃(j:Nat) (q:Oper×Option Prim),acc[j]? =some q/\(Da ops m (i+j)||Prim.simple q.2)=false)
 |[],i,s,K,r,h=> .inl ⟨[],s,rfl,rfl,rfl,h⟩
 |o::l,i,s,K,r,h=>by
  simp only[Mm]at h;have I:(∃p s1,H4 P C ops m i o s=some (p,s1)/\Mm P C ops m l (i+1) s1 (λrest G=>K ((o,p)::rest) G)=some r)\/
    (∃p s1,Mm P C ops m l (i+1) s1 (λrest G=>K ((o,some p)::rest) G)=some r/\(Da ops m i||Prim.simple (some p))=false):=by
   cases T:Da ops m i
   ·rw[T]at h;rcases Zyg D h with⟨p,s1,L,M⟩|⟨p,s1,L,M⟩
    ·exact .inl ⟨p,s1,by unfold H4;rw[aa (by rw[T];simp)];exact L,M⟩
    ·exact .inr ⟨p,s1,L,by simpa using M⟩
   ·rw[T,Zeg D]at h;cases U:E0 P C true ops o s λp X=>some (p,X)with
    |none=>rw[U]at h;simp at h
    |some q=>
     rw[U]at h;exact .inl ⟨q.1,q.2,by unfold H4;rw[ab T];exact U,h⟩
  rcases I with⟨p,s1,L,M⟩|⟨p,s1,L,M⟩
  ·rcases Zz D l (i+1) s1 _ r M with⟨ps,G,N,O,S,V⟩|⟨acc,G,N,j,q,O,S⟩
   ·exact .inl ⟨(i,o,p)::ps,G,by simp[N],by simp[O,List.range'_succ],⟨s1,L,S⟩,V⟩
   ·exact .inr ⟨_,G,N,j+1,q,by simp[O],by rw[show i+(j+1)=i+1+j from by omega];exact S⟩
  ·rcases Zz D l (i+1) s1 _ r L with⟨ps,G,N,O,S,V⟩|⟨acc,G,N,j,q,O,S⟩
   ·exact .inr ⟨_,G,V,0,(o,some p),by simp,M⟩
   ·exact .inr ⟨_,G,N,j+1,q,by simp[O],by rw[show i+(j+1)=i+1+j from by omega];exact S⟩
end
end Go.Bm
set_option linter.unusedSimpArgs false
namespace Go.Bm
open Go.RowKit
section
variable {P:Program} {C:Cfg} {w:World} {R:Type} {Z:Base}
theorem Sw {G D:Operand->TV}:∀(l:List Operand),(∀x∈l,G x=D x)->BU G l=BU D l
 |[],_=>rfl
 |x::l,h=>by simp only[BU];rw[h x (by simp),Sw l λy I=>h y (by simp[I])]
theorem Qkp {G D:Operand->TV}:∀(l:List (Nat×Operand)),(∀p∈l,G p.2=D p.2)->Ff G l=Ff D l
 |[],_=>rfl
 |x::l,h=>by simp only[Ff];rw[h x (by simp),Qkp l λy I=>h y (by simp[I])]
theorem Q8p {G D:Operand->TV} (o:Option Operand) (h:∀x,o=some x->G x=D x):Kn G o=Kn D o:=by
 cases o with
 |none=>rfl
 |some x=>simp only[Kn];rw[h x rfl]
theorem IG {I D:Operand->TV} {dst:Option Tmp} {o:Op} (h:∀x∈o.operands,I x=D x) (K:Prim->Option R):opK P C I dst o K=opK P C D dst o K:=by
 cases o<;>simp only[Op.operands]at h<;>simp only[opK]
 case move x=>rw[h x (by simp)]
 case assign x=>rw[h x (by simp)]
 case pick c a b=>rw[h c (by simp),h a (by simp),h b (by simp)]
 case box t x=>rw[h x (by simp)]
 case build t parts=>rw[Qkp parts.toList λp L=>h p.2 (by simp;exact⟨p.1,by simpa using L⟩)]
 case buildSlice t n parts=>rw[Qkp parts.toList λp L=>h p.2 (by simp;exact⟨p.1,by simpa using L⟩)]
 case makeSlice t a b=>rw[h a (by simp),h b (by simp)]
 case makeFunc V a b=>
  rw[Sw a.toList λx G=>h x (by simp at G⊢;exact .inl G),Sw b.toList λx G=>h x (by simp at G⊢;exact .inr G)]
 case load t a=>rw[h a (by simp)]
 case store t a x=>rw[h a (by simp),h x (by simp)]
 case nilCheck x=>rw[h x (by simp)]
 case binOp op t x y _=>rw[h x (by simp),h y (by simp)]
 case unOp op t x=>rw[h x (by simp)]
 case convert s d x=>rw[h x (by simp)]
 case fieldAddr t x i=>rw[h x (by simp)]
 case field t x i=>rw[h x (by simp)]
 case indexAddr t x M=>rw[h x (by simp),h M (by simp)]
 case index t x M=>rw[h x (by simp),h M (by simp)]
 case slice t x lo S mx=>
  rw[h x (by simp),Q8p lo λy N=>h y (by simp[N]),Q8p S λy N=>h y (by simp[N])]
 case extract t i=>rw[h t (by simp)]
 case call c=>
  have T:∀t,c.callee= .value (.tmp t)->I (.tmp t)=D (.tmp t):=λt O=>h _ (by simp only[Call.operands,O];exact Array.mem_append.2 (.inl (by simp)));have U:BU I c.args.toList=BU D c.args.toList:=Sw _ λx G=>h x (by simp only[Call.operands];exact Array.mem_append.2 (.inr (by simpa using G)));rw[U];split
  ·rfl
  ·rfl
  ·rename_i t O;rw[T t O]
  ·rfl
theorem Qvr {tm:List TV} {d:Nat} {v:TV} {x:Operand} (h:x≠ .tmp d):AG (setL tm d v) x=AG tm x:=by
 cases x with
 |tmp t=>
  have D:d≠t:=λe=>h (by rw[e]);simp only[AG,BV,List.getD,Im,i7,aa D]
 |_=>rfl
def CH (tm:List TV) (d:Option Tmp) (v:TV):List TV:=
 match d with
 |none=>tm
 |some t=>setL tm t v
theorem KF (tm:List TV) (bx:List (Nat×Box)) (aC:List (Nat×Row)) (d:Option Tmp) (v:TV):RO ⟨tm,bx,aC⟩ d v=⟨CH tm d v,bx,aC⟩:=by cases d<;>rfl
theorem Ob {tm:List TV} {d e:Option Tmp} (v u:TV) (h:∀t,d=some t->e≠some t):CH (CH tm d v) e u=CH (CH tm e u) d v:=by
 cases d with
 |none=>rfl
 |some t=>
  cases e with
  |none=>rfl
  |some q=>
   have D:t≠q:=λx=>h t rfl (by rw[x]);simp only[CH,Im];exact List.set_comm _ _ D
def C8 (P:Program) (C:Cfg) (ops:List Oper) (o:Oper) (tm:List TV) (bx:List (Nat×Box)) (aC:List (Nat×Row)):Option (Option Prim×TV×List (Nat×Box)):=
 match BR ops o tm with
 |some true=>(opK P C (AG tm) o.dst o.op some).bind λp=>(Av (C:=C) o.dst (p.dr false) bx aC).bind λq=>some (some (p.dr false),q.1,q.2)
 |some false=>some (none, .tup [],bx)
 |none=>none
theorem Zit {d:Option Tmp} {p:Prim} {bx:List (Nat×Box)} {aC:List (Nat×Row)} (h:Prim.isApp (some p)=true):Av (C:=C) d p bx aC=none:=by
 cases p<;>simp[Prim.isApp]at h
 rfl
theorem Z91 {d:Option Tmp} {p:Prim} {bx:List (Nat×Box)} {aC:List (Nat×Row)} (h:Prim.isMk (some p)=true):Av (C:=C) d p bx aC=none:=by
 cases p<;>simp[Prim.isMk]at h<;>rfl
theorem Zc8 {ops:List Oper} {o:Oper} {tm:List TV} {bx D:List (Nat×Box)} {aC:List (Nat×Row)} {p:Option Prim} {v:TV} (h:C8 P C ops o tm bx aC=some (p,v,D)):Prim.isMk p=false:=by
 unfold C8 at h;split at h
 ·cases G:opK P C (AG tm) o.dst o.op some with
  |none=>rw[G]at h;simp at h
  |some q=>
   rw[G]at h;simp only[af]at h;cases I:Prim.isMk (some (q.dr false))with
   |true=>rw[Z91 I]at h;simp at h
   |false=>
    cases L:Av (C:=C) o.dst (q.dr false) bx aC with
    |none=>rw[L]at h;simp at h
    |some z=>rw[L]at h;simp at h;rw[<-h.1];exact I
 ·simp at h;rw[<-h.1];rfl
 ·simp at h
theorem Zfj {ops:List Oper} {o:Oper} {tm:List TV} {bx D:List (Nat×Box)} {aC:List (Nat×Row)} {p:Option Prim} {v:TV} (h:C8 P C ops o tm bx aC=some (p,v,D)):Prim.isApp p=false:=by
 unfold C8 at h;split at h
 ·cases G:opK P C (AG tm) o.dst o.op some with
  |none=>rw[G]at h;simp at h
  |some q=>
   rw[G]at h;simp only[af]at h;cases I:Prim.isApp (some (q.dr false))with
   |true=>rw[Zit I]at h;simp at h
   |false=>
    cases L:Av (C:=C) o.dst (q.dr false) bx aC with
    |none=>rw[L]at h;simp at h
    |some z=>rw[L]at h;simp at h;rw[<-h.1];exact I
 ·simp at h;rw[<-h.1];rfl
 ·simp at h
theorem Oo {ops:List Oper} {o:Oper} {tm:List TV} {bx D:List (Nat×Box)} {aC:List (Nat×Row)} {p:Option Prim} {v:TV} (h:C8 P C ops o tm bx aC=some (p,v,D)):
  B8 (P:=P) (C:=C) ops o ⟨tm,bx,aC⟩=some (p,⟨CH tm o.dst v,D,aC⟩):=by
 have G:=Zfj h;have I:=Zc8 h;unfold C8 at h;unfold B8;dsimp only;cases L:BR ops o tm with
 |none=>rw[L]at h;simp at h
 |some b=>
  cases b
  ·rw[L]at h;simp at h;obtain⟨rfl,rfl,rfl⟩:=h;simp only[KF]
  ·rw[L]at h;dsimp only at h⊢;cases N:opK P C (AG tm) o.dst o.op some with
   |none=>rw[N]at h;simp at h
   |some q=>
    rw[N]at h;simp only[af]at h⊢;cases M:Av (C:=C) o.dst (q.dr false) bx aC with
    |none=>rw[M]at h;simp at h
    |some z=>
     rw[M]at h;simp at h;obtain⟨rfl,rfl,rfl⟩:=h;unfold EI;rw[G,I];simp only[aq,M,f9,af,KF]
theorem Mg {ops:List Oper} {o:Oper} {tm:List TV} {bx:List (Nat×Box)} {aC:List (Nat×Row)} {p:Option Prim} {M:St} (h:B8 (P:=P) (C:=C) ops o ⟨tm,bx,aC⟩=some (p,M)) (O:Prim.isApp p=false) (I:Prim.isMk p=false):
  ∃v G,C8 P C ops o tm bx aC=some (p,v,G)/\M=⟨CH tm o.dst v,G,aC⟩:=by
 unfold B8 at h;unfold C8;dsimp only at h;cases L:BR ops o tm with
 |none=>rw[L]at h;simp at h
 |some b=>
  cases b
  ·rw[L]at h;simp at h;obtain⟨rfl,rfl⟩:=h;exact⟨_,_,rfl,by rw[KF]⟩
  ·rw[L]at h;dsimp only at h⊢;cases N:opK P C (AG tm) o.dst o.op some with
   |none=>rw[N]at h;simp at h
   |some q=>
    rw[N]at h;simp only[af]at h⊢;cases D:EI (C:=C) o.dst (q.dr false) ⟨tm,bx,aC⟩with
    |none=>rw[D]at h;simp at h
    |some z=>
     rw[D]at h;simp at h;obtain⟨rfl,rfl⟩:=h;unfold EI at D;rw[O,I]at D;simp only[aq,bh]at D;obtain⟨y,S,rfl⟩:=D;rw[S];exact⟨_,_,rfl,by rw[KF]⟩
theorem Qgw {ops:List Oper} {o:Oper} {tm:List TV} {bx:List (Nat×Box)} {aC:List (Nat×Row)} {p:Option Prim} {L:St} (h:B8 (P:=P) (C:=C) ops o ⟨tm,bx,aC⟩=some (p,L)) (M:Prim.isApp p=true):
  BR ops o tm=some true/\∃q id v D,opK P C (AG tm) o.dst o.op some=some q/\p=some (q.dr false)/\Ka o.dst (q.dr false)=some id/\Kx o.dst aC (q.dr false)=some (v,D)/\L=⟨CH (tm.map (TV.kill id)) o.dst v,bx.map λp=>(p.1,p.2.kill id),D⟩:=by
 unfold B8 at h;dsimp only at h;cases I:BR ops o tm with
 |none=>rw[I]at h;simp at h
 |some b=>
  cases b
  ·rw[I]at h;simp at h;obtain⟨rfl,rfl⟩:=h;simp[Prim.isApp]at M
  ·rw[I]at h;refine⟨rfl,?_⟩;dsimp only at h;cases N:opK P C (AG tm) o.dst o.op some with
   |none=>rw[N]at h;simp at h
   |some q=>
    rw[N]at h;simp only[af]at h;cases G:EI (C:=C) o.dst (q.dr false) ⟨tm,bx,aC⟩with
    |none=>rw[G]at h;simp at h
    |some z=>
     rw[G]at h;simp at h;obtain⟨rfl,rfl⟩:=h;unfold EI at G;rw[M]at G;simp only[ag]at G;split at G
     ·rename_i id hid;simp only[bh]at G;obtain⟨⟨y1,y2⟩,O,rfl⟩:=G;exact⟨q,id,y1,y2,rfl,rfl,hid,O,by unfold Ww;rw[KF]⟩
     ·simp at G
theorem Q0y {ops:List Oper} {o:Oper} {tm:List TV} {bx:List (Nat×Box)} {aC D:List (Nat×Row)} {q:Prim} {id:Nat} {v:TV} (G:BR ops o tm=some true) (I:opK P C (AG tm) o.dst o.op some=some q)
  (L:Ka o.dst (q.dr false)=some id) (M:Kx o.dst aC (q.dr false)=some (v,D)) (N:Prim.isApp (some (q.dr false))=true):
  B8 (P:=P) (C:=C) ops o ⟨tm,bx,aC⟩=some (some (q.dr false),⟨CH (tm.map (TV.kill id)) o.dst v,bx.map λp=>(p.1,p.2.kill id),D⟩):=by
 unfold B8;dsimp only;rw[G,I];simp only[af];unfold EI;rw[N];simp only[ag,L,M,f9,af,Ww,KF]
theorem Tz {ops:List Oper} {o:Oper} {tm:List TV} {bx:List (Nat×Box)} {aC:List (Nat×Row)} {p:Option Prim} {N:St} (h:B8 (P:=P) (C:=C) ops o ⟨tm,bx,aC⟩=some (p,N)) (I:Prim.isMk p=true):
  BR ops o tm=some true/\∃q v D,opK P C (AG tm) o.dst o.op some=some q/\p=some (q.dr false)/\mkD (C:=C) o.dst (q.dr false) aC=some (v,D)/\N=⟨CH tm o.dst v,bx,D⟩:=by
 unfold B8 at h;dsimp only at h;cases L:BR ops o tm with
 |none=>rw[L]at h;simp at h
 |some b=>
  cases b
  ·rw[L]at h;simp at h;obtain⟨rfl,rfl⟩:=h;simp[Prim.isMk]at I
  ·rw[L]at h;refine⟨rfl,?_⟩;dsimp only at h;cases O:opK P C (AG tm) o.dst o.op some with
   |none=>rw[O]at h;simp at h
   |some q=>
    rw[O]at h;simp only[af]at h;cases G:EI (C:=C) o.dst (q.dr false) ⟨tm,bx,aC⟩with
    |none=>rw[G]at h;simp at h
    |some z=>
     rw[G]at h;simp at h;obtain⟨rfl,rfl⟩:=h;have M:Prim.isApp (some (q.dr false))=false:=by
      generalize q.dr false=S at I⊢;cases S<;>simp[Prim.isMk]at I<;>rfl
     unfold EI at G;rw[M,I]at G;simp only[aq,ag,bh]at G;obtain⟨⟨y1,y2⟩,T,rfl⟩:=G;exact⟨q,y1,y2,rfl,rfl,T,by rw[KF]⟩
theorem Ta {ops:List Oper} {o:Oper} {tm:List TV} {bx:List (Nat×Box)} {aC D:List (Nat×Row)} {q:Prim} {v:TV} (L:BR ops o tm=some true) (M:opK P C (AG tm) o.dst o.op some=some q)
  (N:mkD (C:=C) o.dst (q.dr false) aC=some (v,D)) (G:Prim.isMk (some (q.dr false))=true):
  B8 (P:=P) (C:=C) ops o ⟨tm,bx,aC⟩=some (some (q.dr false),⟨CH tm o.dst v,bx,D⟩):=by
 have I:Prim.isApp (some (q.dr false))=false:=by
  generalize q.dr false=O at G⊢;cases O<;>simp[Prim.isMk]at G<;>rfl
 unfold B8;dsimp only;rw[L,M];simp only[af];unfold EI;rw[I,G];simp only[ag,aq,N,f9,af,KF]
theorem Zj3 {id:Nat} {a:AC} (h:a.live=true):a.kill id=a:=by cases a<;>simp[AC.live]at h<;>rfl
theorem Zki {id:Nat} {a:AC} (h:(a.kill id).live=true):a.kill id=a:=by
 cases a<;>simp only[AC.kill]at h⊢<;>try rfl
 all_goals
  rename_i j b c;cases hb:Nat.beq j id<;>rw[hb]at h
  ·rfl
  ·simp[AC.live]at h
theorem Rp {id:Nat}:∀{l:List AC},Ak AC.live l=true->l.map (AC.kill id)=l
 |[],_=>rfl
 |a::l,h=>by
  rw[Au]at h;simp only[ba];rw[Zj3 (h a (by simp)),Rp (Au.2 λx D=>h x (by simp[D]))]
theorem So {id:Nat}:∀{l:List AC},Ak AC.live (l.map (AC.kill id))=true->l.map (AC.kill id)=l
 |[],_=>rfl
 |a::l,h=>by
  rw[Au]at h;simp only[ba]at h⊢;rw[Zki (h _ (by simp)),So (Au.2 λx D=>h x (by simp[D]))]
theorem UA (id:Nat):∀(tm:List TV) (t:Nat),nth .vD (tm.map (TV.kill id)) t=(nth .vD tm t).kill id
 |[],_=>rfl
 |_::_,0=>rfl
 |_::tm,t+1=>UA id tm t
theorem Ri {id:Nat} {tm:List TV} {x:Operand} {g:Bool} {cs:List AC} (h:AG tm x= .v g cs) (D:Ak AC.live cs=true):AG (tm.map (TV.kill id)) x= .v g cs:=by
 cases x<;>try exact h
 simp only[AG]at h⊢;rw[UA,h];simp only[TV.kill];rw[Rp D]
theorem Qs {id:Nat} {tm:List TV} {x:Operand} {g:Bool} {cs:List AC} (h:AG (tm.map (TV.kill id)) x= .v g cs) (G:Ak AC.live cs=true):AG tm x= .v g cs:=by
 cases x<;>try exact h
 simp only[AG]at h⊢;rw[UA]at h;cases D:nth TV.vD tm (by assumption)with
 |vD=>rw[D]at h;simp[TV.kill]at h
 |tup ps=>rw[D]at h;simp[TV.kill]at h
 |v L I=>
  rw[D]at h;simp only[TV.kill,TV.v.injEq]at h;obtain⟨rfl,rfl⟩:=h;rw[So G]
theorem YD {q:Prim} (h:Prim.isPtr (some (q.dr false))=true):∃k o,q= .val (.v false [.ptr k o]):=by
 cases q<;>simp only[Prim.dr,Prim.isPtr]at h<;>try (simp at h;done)
 case callM f args=>cases hb:Ak TV.plainB args<;>simp[hb]at h
 rename_i v;split at h
 ·rename_i h';simp at h';exact⟨_,_,by rw[h']⟩
 ·simp at h
theorem Qh8 {q:Prim} (h:Prim.isLive (some (q.dr false))=true):∃g cs,q= .val (.v g cs)/\Ak AC.live cs=true:=by
 cases q<;>simp only[Prim.dr,Prim.isLive]at h<;>try (simp at h;done)
 case callM f args=>cases hb:Ak TV.plainB args<;>simp[hb]at h
 rename_i v;cases v<;>simp at h
 exact⟨_,_,rfl,h⟩
theorem Zwj {a:AC} (h:a.plain=true):a.live=true:=by cases a<;>simp[AC.plain]at h<;>rfl
theorem Si {l:List AC} (h:Ak AC.plain l=true):Ak AC.live l=true:=Au.2 λx D=>Zwj (Au.1 h x D)
theorem Z1d {id:Nat}:∀{u:TV},(u.kill id).plainB=true->u.kill id=u
 | .vD,_=>rfl
 | .v g cs,h=>by simp only[TV.kill,TV.plainB]at h⊢;rw[So (Si h)]
 | .tup ps,h=>by
  simp only[TV.kill,TV.plainB]at h⊢;congr 1;induction ps with
  |nil=>rfl
  |cons p ps D=>
   rw[Au]at h;simp only[ba]at h⊢;rw[So (Si (h (p.1,p.2.map (AC.kill id)) (by simp))),D (Au.2 λx G=>h x (i9 _ G))]
theorem Qbv {id:Nat}:∀{u:TV},u.plainB=true->u.kill id=u
 | .vD,_=>rfl
 | .v g cs,h=>by simp only[TV.kill,TV.plainB]at h⊢;rw[Rp (Si h)]
 | .tup ps,h=>by
  simp only[TV.kill,TV.plainB]at h⊢;congr 1;induction ps with
  |nil=>rfl
  |cons p ps D=>
   rw[Au]at h;simp only[ba];rw[Rp (Si (h p (by simp))),D (Au.2 λx G=>h x (i9 _ G))]
theorem Zgo {id:Nat} {tm:List TV} {x:Operand} {v:TV} (D:v.plainB=true):AG (tm.map (TV.kill id)) x=v↔AG tm x=v:=by
 cases x<;>try exact Iff.rfl
 simp only[AG];rw[UA];exact⟨λh=>by rw[<-h,Z1d (by rw[h];exact D)],λh=>by rw[h,Qbv D]⟩
theorem Q97 {id:Nat} {tm:List TV}:∀(l:List Operand) {D:List TV},Ak TV.plainB D=true->(BU (AG (tm.map (TV.kill id))) l=D↔BU (AG tm) l=D)
 |[],D,_=>Iff.rfl
 |x::l,[],_=>by simp[BU]
 |x::l,v::D,h=>by
  rw[Au]at h;simp only[BU,d7];rw[Zgo (h v (by simp)),Q97 l (Au.2 λy G=>h y (by simp[G]))]
theorem Qx6 {q:Prim} (h:Prim.isCallP (some (q.dr false))=true):∃f args,q= .call f args/\Ak TV.plainB args=true:=by
 cases q<;>simp only[Prim.dr,Prim.isCallP]at h<;>try (simp at h;done)
 case callM f args=>cases hb:Ak TV.plainB args<;>simp[hb]at h
 exact⟨_,_,rfl,h⟩
theorem Qsa {g:Int->Int->Int} {k:IntKind} {as:List TV} {f:FuncId}:∀{l:List TV} {a:Int},EP g k a l some≠some (.call f as)
 |[],a,h=>by simp[EP]at h
 |t::l,a,h=>by
  simp only[EP]at h;split at h
  ·rename_i k' b;cases hb:kEq k k'<;>rw[hb]at h
   ·simp at h
   ·exact Qsa h
  ·simp at h
theorem Ztl {b:Builtin} {D:List TypeId} {args as:List TV} {f:FuncId}:Jt P b D args some≠some (.call f as):=by
 intro h;unfold Jt at h
 repeat' split at h
 all_goals first|(simp at h;done)|skip
 all_goals first|(simp only[cond_eq_ite]at h;split at h<;>simp at h;done)|(simp only[cond_eq_ite]at h;repeat' split at h)|skip
 all_goals first|(simp at h;done)|exact Qsa h
theorem Q0b {I:Operand->TV} {dst:Option Tmp} {c:Call} {f:FuncId} {args:List TV}:
  opK P C I dst (.call c) some=some (.call f args)↔c.callee= .value (.func f)/\C.pure f=true/\BU I c.args.toList=args:=by
 simp only[opK];split
 ·rename_i b hb;exact⟨λh=>absurd h Ztl,λh=>by rw[hb]at h;simp at h⟩
 ·rename_i g M;rw[M];cases L:C.pure g
  ·simp only[aq,am];exact⟨λh=>by simp at h,fun⟨D,G,_⟩=>by simp at D;subst D;rw[L]at G;simp at G⟩
  ·simp only[ag,am,Prim.call.injEq,Callee.value.injEq,Operand.func.injEq];exact⟨fun⟨D,G⟩=>⟨D,D▸L,G⟩,fun⟨D,_,G⟩=>⟨D,G⟩⟩
 ·rename_i t N;rw[N];constructor
  ·intro h;split at h
   ·rename_i g fs cs _;cases hb:(Ak AC.clOk fs&&Ak AC.clOk cs)<;>rw[hb]at h<;>simp at h
   ·simp at h
  ·intro h;simp at h
 ·rename_i D G O;exact⟨λh=>by simp at h,λh=>absurd h.1 (G f)⟩
theorem Qxt {q:Prim} (h:Prim.isLoad (some (q.dr false))=true):∃g sz key off,q= .load g sz key off:=by
 cases q<;>simp only[Prim.dr,Prim.isLoad]at h<;>try (simp at h;done)
 case callM f args=>cases hb:Ak TV.plainB args<;>simp[hb]at h
 exact⟨_,_,_,_,rfl⟩
theorem Qrq {D:Operand->TV} {dst:Option Tmp} {t:TypeId} {a:Operand} {g:Bool} {sz key off:Nat} (h:opK P C D dst (.load t a) some=some (.load g sz key off)):D a= .v false [.ptr key off]:=by
 simp only[opK]at h
 repeat' split at h
 all_goals first|(simp at h;done)|skip
 rename_i G;simp at h;obtain⟨_,_,rfl,rfl⟩:=h;exact G
theorem Zy6 {id:Nat} {g:Bool} {sz off:Nat} {cells:List AC}:CJ g sz (cells.map (AC.kill id)) off=(CJ g sz cells off).map (TV.kill id):=by
 unfold CJ;cases g
 ·simp only[aq,d8];cases cells[off]? <;>rfl
 ·simp only[ag,ah];cases Nat.ble (off+sz) cells.length
  ·rfl
  ·simp only[ag,f9,TV.agg,TV.kill,Z5b]
theorem Qtq {id:Nat}:∀(bx:List (Nat×Box)) (k:Nat),Ab (bx.map λp=>(p.1,p.2.kill id)) k=(Ab bx k).map (Box.kill id)
 |[],_=>rfl
 |(j,b)::bx,k=>by
  simp only[ba,Ab];cases Nat.beq j k
  ·exact Qtq bx k
  ·rfl
theorem Zsj {k:Kd} {a b:AC} (h:PF k a=some b):a.live=true:=by
 cases k<;>cases a<;>simp[PF]at h<;>rfl
theorem Q31:∀{ks:List Kd} {cs c:List AC},Fj ks cs=some c->Ak AC.live cs=true
 |[],[],_,_=>rfl
 |[],_::_,_,h=>by simp[Fj]at h
 |_::_,[],_,h=>by simp[Fj]at h
 |k::ks,a::cs,c,h=>by
  simp only[Fj]at h;split at h
  ·rename_i L G;split at h
   ·rename_i c' I;have:=Au.1 (Q31 I);exact Au.2 λx D=>by
     rcases ax.1 D with rfl|D
     ·exact Zsj G
     ·exact this x D
   ·simp at h
  ·simp at h
theorem Q8e:∀{α:Type} (l v:List α),l.length=v.length->splice l 0 v=v
 |_,[],[],_=>rfl
 |_,[],_::_,h=>by simp at h
 |_,_::_,[],h=>by simp at h
 |_,x::l,y::v,h=>by simp only[splice];rw[Q8e l v (by simpa using h)]
theorem Qrh {D:Operand->TV} {dst:Option Tmp} {t:TypeId} {parts:Array (Nat×Operand)} {x:Operand} (N:parts.toList=[(0,x)]) {e:TypeId} {ks:List Kd} {l:List (List AC)}
  (h:opK P C D dst (.buildSlice t 1 parts) some=some (.newView e ks l)):∃g cs,D x= .v g cs/\Ak AC.live cs=true:=by
 simp only[opK,N,Ff]at h;split at h
 ·split at h
  ·rename_i w z G _ _ _;cases hb:(Nat.beq z.length w&&Nat.beq G.length w&&Nat.ble 1 w&&Nat.ble (1*w) 65536)<;>rw[hb]at h
   ·simp at h
   ·simp only[ag]at h;simp only[ai,Nat.beq_eq]at hb;obtain⟨⟨⟨O,T⟩,_⟩,_⟩:=hb;cases I:D x with
    |vD=>rw[I]at h;simp[Gc,TV.cells]at h
    |tup ps=>rw[I]at h;simp[Gc,TV.cells]at h
    |v g cs=>
     refine⟨g,cs,rfl,?_⟩;rw[I]at h;simp only[Gc,TV.cells]at h;cases L:(Nat.beq cs.length w&&Nat.ble (0*w+w) (chunk z 1).length)<;>rw[L]at h
     ·simp at h
     ·simp only[ag]at h;simp only[ai,Nat.beq_eq]at L;rw[show splice (chunk z 1) (0*w) cs=cs from by
       rw[ik];exact Q8e _ _ (by simp[chunk,O,L.1])]at h
      split at h
      ·rename_i U M;simp only[Hp]at M;split at M
       ·rename_i c hf;rw[gv (by omega)]at hf;exact Q31 hf
       ·simp at M
      ·cases S:(Ak AC.isClo cs&&Nat.beq w 1)<;>rw[S]at h<;>simp at h
  ·simp at h
 ·simp at h
theorem Ztt {l:List (Nat×Operand)} (h:oneP l=true):∃x,l=[(0,x)]:=by
 match l,h with
 |[(0,x)],_=>exact⟨x,rfl⟩
theorem Za7 {q:Prim} (h:Prim.isView (some (q.dr false))=true):∃e ks l,q= .newView e ks l:=by
 cases q<;>simp only[Prim.dr,Prim.isView]at h<;>try (simp at h;done)
 case callM f args=>cases hb:Ak TV.plainB args<;>simp[hb]at h
 exact⟨_,_,_,rfl⟩
theorem Qve {id:Nat} {tm:List TV} {dst:Option Tmp} {o:Op} {q:Prim} (G:Prim.still o (some (q.dr false))=true):
  opK P C (AG (tm.map (TV.kill id))) dst o some=some q↔opK P C (AG tm) dst o some=some q:=by
 cases o<;>simp[Prim.still]at G
 case call c=>
  obtain⟨f,args,rfl,T⟩:=Qx6 G;rw[Q0b,Q0b,Q97 _ T]
 case build t parts=>
  have key:∀x∈(Op.build t parts).operands,AG (tm.map (TV.kill id)) x=AG tm x:=by
   intro x L;simp only[Op.operands]at L;simp at L;obtain⟨a,S⟩:=L;have:=Au.1 G.1 (a,x) (by simpa using S);cases x<;>simp[Q9t]at this
   rfl
  rw[IG key]
 case load t a=>
  obtain⟨g,sz,key,off,rfl⟩:=Qxt G;have I:Ak AC.live [AC.ptr key off]=true:=rfl;constructor
  ·intro h;have e:=Qrq h;have e2:=Qs e I;rw[<-h];refine IG (λy D=> ?_) some;simp only[Op.operands]at D;simp at D;subst D;rw[e,e2]
  ·intro h;have e:=Qrq h;have e2:=Ri (id:=id) e I;rw[<-h];refine IG (λy D=> ?_) some;simp only[Op.operands]at D;simp at D;subst D;rw[e,e2]
 case buildSlice t n parts=>
  obtain⟨⟨rfl,U⟩,V⟩:=G;obtain⟨x,L⟩:=Ztt U;obtain⟨e,ks,l,rfl⟩:=Za7 V;have N:∀y∈(Op.buildSlice t 1 parts).operands,y=x:=by
   intro y D;simp only[Op.operands]at D;simp at D;obtain⟨a,S⟩:=D;have:(a,y)∈parts.toList:=by simpa using S
   rw[L]at this;simp at this;exact this.2
  constructor
  ·intro h;obtain⟨g,cs,e1,I⟩:=Qrh L h;have e2:=Qs e1 I;rw[<-h];refine IG (λy D=> ?_) some;rw[N y D,e1,e2]
  ·intro h;obtain⟨g,cs,e1,I⟩:=Qrh L h;have e2:=Ri (id:=id) e1 I;rw[<-h];refine IG (λy D=> ?_) some;rw[N y D,e1,e2]
 case move x=>
  obtain⟨g,cs,rfl,G⟩:=Qh8 G;simp only[opK,am,Prim.val.injEq];exact⟨λh=>Qs h G,λh=>Ri h G⟩
 case nilCheck x=>
  obtain⟨k,o,rfl⟩:=YD G;have I:Ak AC.live [AC.ptr k o]=true:=rfl;have key:∀M:Operand->TV,opK P C M dst (.nilCheck x) some=some (.val (.v false [.ptr k o]))↔M x= .v false [.ptr k o]:=by
   intro M;simp only[opK];split
   ·rename_i k' O h;rw[h];simp[TV.c]
   ·rename_i h;rw[h];simp[TV.c]
   ·rename_i h;rw[h];simp[TV.c]
   ·rename_i X Y h3;constructor
    ·intro h;simp at h
    ·intro h;exact(X _ _ h).elim
  rw[key,key];exact⟨λh=>Qs h I,λh=>Ri h I⟩
 case fieldAddr t x i=>
  obtain⟨k,o,rfl⟩:=YD G;have key:∀M:Operand->TV,opK P C M dst (.fieldAddr t x i) some=some (.val (.v false [.ptr k o]))->∃k' O,M x= .v false [.ptr k' O]:=by
   intro M h;simp only[opK]at h
   repeat' split at h
   all_goals first|(simp at h;done)|(simp[TV.c]at h;done)|exact⟨_,_,by assumption⟩
  constructor
  ·intro h;obtain⟨k',O,e⟩:=key _ h;have e2:=Qs e rfl;rw[<-h];refine IG (λy D=> ?_) some;simp only[Op.operands]at D;simp at D;subst D;rw[e,e2]
  ·intro h;obtain⟨k',O,e⟩:=key _ h;have e2:=Ri (id:=id) e rfl;rw[<-h];refine IG (λy D=> ?_) some;simp only[Op.operands]at D;simp at D;subst D;rw[e,e2]
theorem Qya {id:Nat} {tm:List TV} {d:Option Tmp} {v:TV}:(CH tm d v).map (TV.kill id)=CH (tm.map (TV.kill id)) d (v.kill id):=by
 cases d with
 |none=>rfl
 |some t=>simp only[CH,Im,List.map_set]
theorem Qf {ops:Array Oper} {o:Oper} {tm:List TV} {d:Option Tmp} {v:TV} (h:∀t,d=some t->t∉o.looksAt ops):BR ops.toList o (CH tm d v)=BR ops.toList o tm:=by
 cases d with
 |none=>rfl
 |some t=>
  have L:=h t rfl;unfold BR;cases M:o.guard with
  |none=>rfl
  |some N=>
   obtain⟨j,want⟩:=N;dsimp only;cases O:ops.toList[j]? with
   |none=>rfl
   |some I=>
    dsimp only;cases S:I.dst with
    |none=>rfl
    |some q=>
     dsimp only;have D:ops[j]? =some I:=by simpa using O
     have G:t≠q:=by
      rintro rfl;exact L (by simp[Oper.looksAt,M,D,S])
     have:nth .vD (CH tm (some t) v) q=nth .vD tm q:=by
      simp only[CH,BV,List.getD,Im,i7,aa G]
     rw[this]
theorem Te {ops:Array Oper} {o:Oper} {tm:List TV} {bx:List (Nat×Box)} {aC:List (Nat×Row)} {d:Option Tmp} {v:TV} (h:∀t,d=some t->t∉o.looksAt ops):
  C8 P C ops.toList o (CH tm d v) bx aC=C8 P C ops.toList o tm bx aC:=by
 unfold C8;rw[Qf h];cases d with
 |none=>rfl
 |some t=>
  have D:=h t rfl;rw [show opK P C (AG (CH tm (some t) v)) o.dst o.op some = opK P C (AG tm) o.dst o.op some from IG (λx G => Qvr (by
   rintro rfl;exact D (List.mem_append_left _ (List.mem_filterMap.2 ⟨.tmp t,by simpa using G,rfl⟩)))) some]
theorem Jy {a b:Nat} (h:a≠b):Nat.beq a b=false:=JZ h
theorem Vi {α:Type}:∀(l:List (Nat×α)) (k j:Nat) (x y:α),k≠j->upd (upd l k x) j y=upd (upd l j y) k x
 |[],_,_,_,_,_=>rfl
 |(i,b)::l,k,j,x,y,h=>by
  by_cases D:i=k
  ·subst D;simp only[upd,jj,ag,Jy h,aq]
  ·by_cases G:i=j
   ·subst G;simp only[upd,jj,ag,Jy D,aq]
   ·simp only[upd,Jy D,Jy G,aq];rw[Vi l k j x y h]
theorem GN {a b:Nat} (h:a<b):Nat.blt a b=true:=by simpa using h
theorem Gs {a b:Nat} (h: ¬a<b):Nat.blt a b=false:=by
 cases hb:Nat.blt a b
 ·rfl
 ·simp at hb;omega
theorem Zq {α:Type}:∀(l:List (Nat×α)) (k j:Nat) (x y:α),k≠j->ins (ins l k x) j y=ins (ins l j y) k x
 |[],k,j,x,y,h=>by
  by_cases D:j<k
  ·simp only[ins,GN D,ag,Gs (show¬k<j by omega),aq]
  ·simp only[ins,Gs D,aq,GN (show k<j by omega),ag]
 |(i,b)::l,k,j,x,y,h=>by
  by_cases D:k<i<;>by_cases G:j<i
  ·by_cases I:j<k
   ·simp only[ins,GN D,GN G,GN I,Gs (show¬k<j by omega),ag,aq]
   ·simp only[ins,GN D,GN G,Gs I,GN (show k<j by omega),ag,aq]
  ·simp only[ins,GN D,Gs G,Gs (show¬j<k by omega),ag,aq]
  ·simp only[ins,Gs D,GN G,Gs (show¬k<j by omega),ag,aq]
  ·simp only[ins,Gs D,Gs G,aq];rw[Zq l k j x y h]
theorem Sg {α:Type}:∀(l:List (Nat×α)) (k j:Nat) (x y:α),k≠j->upd (ins l k x) j y=ins (upd l j y) k x
 |[],k,j,x,y,h=>by simp only[ins,upd,Jy h,aq]
 |(i,b)::l,k,j,x,y,h=>by
  by_cases D:k<i<;>by_cases G:i=j
  ·subst G;simp only[ins,upd,GN D,Jy h,jj,ag,aq]
  ·simp only[ins,upd,GN D,Jy h,Jy G,ag,aq]
  ·subst G;simp only[ins,upd,Gs D,jj,ag,aq]
  ·simp only[ins,upd,Gs D,Jy G,aq];rw[Sg l k j x y h]
theorem I5 {d:Option Tmp} {f:FuncId} {args:List TV} {bx D:List (Nat×Box)} {aC:List (Nat×Row)} {v:TV} (h:Av (C:=C) d (.call f args) bx aC=some (v,D)):
  D=bx/\∀(N:Option Tmp) (G:List (Nat×Box)),Av (C:=C) N (.call f args) G aC=some (v,G):=by
 simp only[Av]at h⊢;cases I:C.spec f with
 |none=>rw[I]at h;simp at h
 |some g=>
  rw[I]at h;dsimp only at h⊢;cases L:E2 aC args with
  |none=>rw[L]at h;simp at h
  |some l=>
   rw[L]at h;dsimp only at h⊢;cases M:g (TV×Mem) l ⟨[],[]⟩ (λv m=>some (v,m))with
   |none=>rw[M]at h;simp at h
   |some q=>
    rw[M]at h;obtain⟨u,⟨O,S⟩⟩:=q;cases O with
    |cons _ _=>simp at h
    |nil=>
     cases S with
     |cons _ _=>simp at h
     |nil=>
      dsimp only at h⊢;split at h
      ·rename_i T;simp at h;obtain⟨rfl,rfl⟩:=h;refine⟨rfl,λ_ _=> ?_⟩;rw[ab T]
      ·simp at h
theorem Qu8 {aC rows':List (Nat×Row)}:∀{args:List TV},Ak TV.plainB args=true->E2 aC args=E2 rows' args:=by
 have L:∀{l:List AC},Ak AC.plain l=true->Ee aC l=Ee rows' l:=by
  intro l;induction l with
  |nil=>intro _;rfl
  |cons a l D=>
   intro h;rw[Au]at h;simp only[Ee];rw[D (Au.2 λx G=>h x (by simp[G]))];have I:=h a (by simp);cases a<;>simp[AC.plain]at I<;>rfl
 intro args;induction args with
 |nil=>intro _;rfl
 |cons a l D=>
  intro h;rw[Au]at h;simp only[E2];rw[D (Au.2 λx G=>h x (by simp[G]))];have I:=h a (by simp);have:a.res aC=a.res rows':=by
   cases a with
   |vD=>rfl
   |tup ps=>rfl
   |v g cs=>simp only[TV.res];rw[L I]
  rw[this]
theorem Qvb {d:Option Tmp} {f:FuncId} {args:List TV} {bx D:List (Nat×Box)} {aC:List (Nat×Row)} {v:TV} (h:Av (C:=C) d (.call f args) bx aC=some (v,D)):v.plainB=true:=by
 simp only[Av]at h
 repeat' split at h
 all_goals first|(simp at h;done)|skip
 rename_i G;simp at h;obtain⟨rfl,rfl⟩:=h;rw[ai]at G;exact G.2
def Qfa (C:Cfg) (id:Nat) (d:Option Tmp) (bx:List (Nat×Box)) (q:Prim):Prop:=
  (∀{v G aC},Av (C:=C) d (q.dr false) bx aC=some (v,G)->G=bx/\∀D,Av (C:=C) d (q.dr false) (bx.map λp=>(p.1,p.2.kill id)) D=some (v.kill id,bx.map λp=>(p.1,p.2.kill id)))/\
  ∀{v G aC},Av (C:=C) d (q.dr false) (bx.map λp=>(p.1,p.2.kill id)) aC=some (v,G)->G=(bx.map λp=>(p.1,p.2.kill id))/\∃u,u.kill id=v/\∀D,Av (C:=C) d (q.dr false) bx D=some (u,bx)
theorem Q1v {id:Nat} {o:Op} {q:Prim} {d:Option Tmp} {bx:List (Nat×Box)} (I:Prim.still o (some (q.dr false))=true):Qfa C id d bx q:=by
 have M:∀g cs,q= .val (.v g cs)->Ak AC.live cs=true->Qfa C id d bx q:=by
  rintro g cs rfl L;have e:(TV.v g cs).kill id= .v g cs:=by simp only[TV.kill];rw[Rp L]
  refine⟨fun{v D aC} h=> ?_,fun{v D aC} h=> ?_⟩
  ·simp only[Prim.dr,Av,am,cd]at h;obtain⟨rfl,rfl⟩:=h;exact⟨rfl,λ_=>by rw[e];rfl⟩
  ·simp only[Prim.dr,Av,am,cd]at h;obtain⟨rfl,rfl⟩:=h;exact⟨rfl,_,e,λ_=>rfl⟩
 cases o<;>simp[Prim.still]at I
 case call c=>
  obtain⟨f,args,rfl,O⟩:=Qx6 I;refine⟨fun{v D aC} h=> ?_,fun{v D aC} h=> ?_⟩
  ·obtain⟨rfl,N⟩:=I5 h;refine⟨rfl,λG=> ?_⟩;rw[Qbv (Qvb h)];have:=N d (D.map λp=>(p.1,p.2.kill id));simp only[Prim.dr,Av]at this⊢;rw[Qu8 (aC:=G) (rows':=aC) O];exact this
  ·obtain⟨rfl,N⟩:=I5 h;refine⟨rfl,v,Qbv (Qvb h),λG=> ?_⟩;have:=N d bx;simp only[Prim.dr,Av]at this⊢;rw[Qu8 (aC:=G) (rows':=aC) O];exact this
 case load t a=>
  obtain⟨g,sz,key,off,rfl⟩:=Qxt I;simp only[Qfa,Prim.dr,Av,Qtq];cases Ab bx key with
  |none=>exact⟨fun{v D aC} h=>by simp at h,fun{v D aC} h=>by simp at h⟩
  |some b=>
   simp only[f9,Box.kill,Zy6];cases CJ g sz b.cells off with
   |none=>exact⟨fun{v D aC} h=>by simp at h,fun{v D aC} h=>by simp at h⟩
   |some u=>
    refine⟨fun{v D aC} h=> ?_,fun{v D aC} h=> ?_⟩
    ·simp at h;obtain⟨rfl,rfl⟩:=h;exact⟨rfl,λ_=>rfl⟩
    ·simp at h;obtain⟨rfl,rfl⟩:=h;exact⟨rfl,u,rfl,λ_=>rfl⟩
 case move x=>obtain⟨g,cs,rfl,L⟩:=Qh8 I;exact M _ _ rfl L
 case build t parts=>obtain⟨g,cs,rfl,L⟩:=Qh8 I.2;exact M _ _ rfl L
 case buildSlice t n parts=>
  obtain⟨e,ks,l,rfl⟩:=Za7 I.2;refine⟨fun{v D aC} h=> ?_,fun{v D aC} h=> ?_⟩
  ·simp only[Prim.dr,Av,am,cd]at h;obtain⟨rfl,rfl⟩:=h;exact⟨rfl,λ_=>rfl⟩
  ·simp only[Prim.dr,Av,am,cd]at h;obtain⟨rfl,rfl⟩:=h;exact⟨rfl,_,rfl,λ_=>rfl⟩
 all_goals
  obtain⟨k,o,rfl⟩:=YD I;exact M _ _ rfl rfl
theorem Oq {d:Option Tmp} {g:Bool} {sz id idx sub:Nat} {bx D:List (Nat×Box)} {aC:List (Nat×Row)} {v:TV} (h:Av (C:=C) d (.rload g sz id idx sub) bx aC=some (v,D)):
  D=bx/\∀(G:Option Tmp) (b':List (Nat×Box)),Av (C:=C) G (.rload g sz id idx sub) b' aC=some (v,b'):=by
 simp only[Av]at h⊢
 repeat' split at h
 all_goals first|(simp at h;done)|skip
 simp at h;obtain⟨rfl,rfl⟩:=h;exact⟨rfl,λ_ _=>rfl⟩
theorem Q07 {n k:Nat}:∀{l:List Nat},k∈Qb n l↔k=n\/k∈l
 |[]=>by simp[Qb]
 |m::l=>by
  simp only[Qb];cases hb:Nat.beq m n
  ·simp only[aq,ax,Q07 (l:=l)];constructor
   ·rintro(h|h|h)<;>simp[h]
   ·rintro(h|h|h)<;>simp[h]
  ·have:=ac hb;subst this;simp only[ag,ax];constructor
   ·rintro(h|h)<;>simp[h]
   ·rintro(h|h|h)<;>simp[h]
theorem Q0i {k:Nat}:∀{ns l:List Nat},k∈AV ns l↔k∈ns\/k∈l
 |[],l=>by simp[AV]
 |n::ns,l=>by
  simp only[AV,Q0i (ns:=ns),Q07,ax];constructor
  ·rintro(h|h|h)<;>simp[h]
  ·rintro((h|h)|h)<;>simp[h]
theorem T2 {α β:Type} {g:α->List β} {x:β}:∀{l:List α},x∈cat g l↔∃a∈l,x∈g a
 |[]=>by simp[cat]
 |a::l=>by simp[cat,T2 (l:=l)]
theorem S3 {k:Nat}:∀{l:List AC},k∈AC.keys.keysL l->∃o,AC.ptr k o∈l
 |[],h=>by simp[AC.keys.keysL]at h
 |a::l,h=>by
  cases a
  case ptr j o=>
   simp only[AC.keys.keysL,ax]at h;rcases h with rfl|h
   ·exact⟨o,by simp⟩
   ·obtain⟨D,h'⟩:=S3 h;exact⟨D,by simp[h']⟩
  all_goals
   simp only[AC.keys.keysL]at h;obtain⟨D,h'⟩:=S3 h;exact⟨D,by simp[h']⟩
theorem Zz8 {bx:List (Nat×Box)} {aC:List (Nat×Row)} {args:List TV} (h:∀v∈args,TV.wf bx aC v) {k:Nat} (N:k∈AV (cat AC.keys (cat TV.cellsOf args)) []):∃b,Ab bx k=some b:=by
 simp only[Q0i,List.not_mem_nil,or_false]at N;obtain⟨a,S,D⟩:=T2.1 N;obtain⟨v,T,G⟩:=T2.1 S;have O:=h v T;have I:AC.wf bx aC a:=by
  cases v with
  |vD=>simp[TV.cellsOf]at G
  |v g cs=>exact O a G
  |tup ps=>
   simp only[TV.cellsOf]at G;obtain⟨p,U,L⟩:=T2.1 G;exact O p U a L
 cases a
 case ptr j o=>simp[AC.keys]at D;subst D;exact I
 case bsl j o=>simp[AC.keys]at D;subst D;exact I
 case clo f fs cs=>
  simp only[AC.keys,bn]at D;rcases D with D|D
  ·obtain⟨o,M⟩:=S3 D;exact I.1 _ M
  ·obtain⟨o,M⟩:=S3 D;exact I.2 _ M
 all_goals simp[AC.keys]at D
theorem Q9d {bx D:List (Nat×Box)} {G ri:Nat->Nat}:∀(keys:List Nat) (b:Nat),(∀k∈keys,Ab D k=Ab bx k)->C0 D G ri b keys=C0 bx G ri b keys
 |[],_,_=>rfl
 |k::keys,b,h=>by
  simp only[C0];rw[h k (by simp),Q9d keys (b+1) λj I=>h j (by simp[I])]
theorem Q4x {α:Type} {p q:α->Bool}:∀{l:List α},(∀x∈l,p x=q x)->Ak p l=Ak q l
 |[],_=>rfl
 |a::l,h=>by simp only[Ak];rw[h a (by simp),Q4x (l:=l) λx D=>h x (by simp[D])]
theorem LL {keys:List Nat}:∀(m:List (Nat×Box)) (l:List (Nat×Box)) (n:Nat),(∀p∈m,n≠nth 0 keys (p.1-base))->Ab (Cr keys m l) n=Ab l n
 |[],_,_,_=>rfl
 |(j,c)::m,l,n,h=>by
  simp only[Cr];rw[LL m _ n λp D=>h p (by simp[D])];exact C_ _ _ _ _ (h (j,c) (by simp))
theorem Qem {keys:List Nat}:∀(m:List (Nat×Box)) (l:List (Nat×Box)) (n:Nat) (x:Box),(∀p∈m,n≠nth 0 keys (p.1-base))->Cr keys m (upd l n x)=upd (Cr keys m l) n x
 |[],_,_,_,_=>rfl
 |(j,c)::m,l,n,x,h=>by
  simp only[Cr];rw[Vi _ _ _ _ _ (h (j,c) (by simp)),Qem m _ n x λp D=>h p (by simp[D])]
theorem Qaa {keys:List Nat}:∀(m:List (Nat×Box)) (l:List (Nat×Box)) (n:Nat) (x:Box),(∀p∈m,n≠nth 0 keys (p.1-base))->Cr keys m (ins l n x)=ins (Cr keys m l) n x
 |[],_,_,_,_=>rfl
 |(j,c)::m,l,n,x,h=>by
  simp only[Cr];rw[Sg _ _ _ _ _ (h (j,c) (by simp)),Qaa m _ n x λp D=>h p (by simp[D])]
theorem Uk {d:Option Tmp} {f:FuncId} {args:List TV} {bx L:List (Nat×Box)} {aC:List (Nat×Row)} {v:TV} (h:Av (C:=C) d (.callD f args) bx aC=some (v,L)):
  ∃D,L=Cr (AV (cat AC.keys (cat TV.cellsOf args)) []) D bx/\(∀p∈D,nth 0 (AV (cat AC.keys (cat TV.cellsOf args)) []) (p.1-base)∈AV (cat AC.keys (cat TV.cellsOf args)) [])/\v.plainB=true/\
   ∀(O:Option Tmp) (I:List (Nat×Box)),(∀k∈AV (cat AC.keys (cat TV.cellsOf args)) [],Ab I k=Ab bx k)->Av (C:=C) O (.callD f args) I aC=some (v,Cr (AV (cat AC.keys (cat TV.cellsOf args)) []) D I):=by
 simp only[Av]at h⊢;generalize AV (cat AC.keys (cat TV.cellsOf args)) []=keys at h⊢;cases S:C.spec f with
 |none=>rw[S]at h;simp at h
 |some g=>
  rw[S]at h;dsimp only at h⊢;split at h
  ·rename_i U;split at h
   ·rename_i mb M;split at h
    ·rename_i v' D V;split at h
     ·rename_i N;simp only[am,cd]at h;obtain⟨rfl,rfl⟩:=h;have G:=N;simp only[ai]at G;refine⟨D,rfl,λp X=> ?_,G.2,λO I T=> ?_⟩
      ·obtain⟨b,hb⟩:=Tm (Au.1 G.1.1.1.2 p X);obtain⟨i,Y,e⟩:=(J5 M).2 _ _ hb;rw[e,show base+i-base=i from by omega];exact Fc Y
      ·rw[Q4x (q:=λk=>Ak AC.calm (Ei bx k)) (λk hk=>by unfold Ei;rw[T k hk]),Q9d keys base T,M,ab U];dsimp only;rw[V];dsimp only;rw[ab N]
     ·simp at h
    ·simp at h
   ·simp at h
  ·simp at h
theorem QY {keys:List Nat}:∀(m:List (Nat×Box)) (l:List (Nat×Box)) {n:Nat} {b:Box},Ab l n=some b->∃b',Ab (Cr keys m l) n=some b'
 |[],_,_,b,h=>⟨b,h⟩
 |(j,c)::m,l,n,b,h=>by
  simp only[Cr];by_cases e:n=nth 0 keys (j-base)
  ·subst e;exact QY m _ (Eu _ _ _ _ h)
  ·exact QY m _ (b:=b) (by rw[C_ _ _ _ _ e];exact h)
theorem Z4q {d:Option Tmp} {f:FuncId} {args:List TV} {bx D:List (Nat×Box)} {aC:List (Nat×Row)} {v:TV} (h:Av (C:=C) d (.callD f args) bx aC=some (v,D)):
  ∀k∈AV (cat AC.keys (cat TV.cellsOf args)) [],∃b,Ab bx k=some b:=by
 simp only[Av]at h;generalize AV (cat AC.keys (cat TV.cellsOf args)) []=keys at h⊢;split at h
 ·split at h
  ·split at h
   ·rename_i L G;intro k I;obtain⟨x,q,_⟩:=(J5 G).1 (pos keys k) (C2 I).1;rw[(C2 I).2]at q;exact⟨x,q⟩
   ·simp at h
  ·simp at h
 ·simp at h
theorem Qs6 {α:Type}:∀(l:List (Nat×α)) (k:Nat) (x:α),Ab l k=some x->upd l k x=l
 |[],_,_,_=>rfl
 |(j,b)::l,k,x,h=>by
  simp only[Ab,upd]at h⊢;cases D:Nat.beq j k
  ·rw[D]at h;simp only[aq]at h⊢;rw[Qs6 l k x h]
  ·rw[D]at h;simp only[ag,am]at h⊢;rw[h,ac D]
theorem Qzp {keys:List Nat} {bx:List (Nat×Box)} {rk ri:Nat->Nat}:∀(ks pre:List Nat) (G:List (Nat×Box)),keys=pre++ks->C0 bx rk ri (base+pre.length) ks=some G->(∀k∈ks,Ak AC.calm (Ei bx k)=true)->Cr keys G bx=bx
 |[],_,G,_,h,_=>by simp[C0]at h;subst h;rfl
 |k::ks,pre,G,I,h,L=>by
  simp only[C0]at h;split at h
  ·rename_i x M;split at h
   ·rename_i l N;simp only[am]at h;subst h;simp only[Cr];have O:nth 0 keys (base+pre.length-base)=k:=by
     rw[show base+pre.length-base=pre.length from by omega,BV,I];simp
    have D:=L k (by simp);unfold Ei at D;rw[M]at D;rw[O,Q5 D,Qs6 bx k _ M];exact Qzp (rk:=rk) (ri:=ri) ks (pre++[k]) l (by rw[I];simp) (by rw[<-N];simp[dm]) (λj S=>L j (by simp[S]))
   ·simp at h
  ·simp at h
theorem Sq (D:Ai P C) {d:Option Tmp} {f:FuncId} (G:C.ro f=true) {args:List TV} {bx bx1:List (Nat×Box)} {aC:List (Nat×Row)} {v:TV} (h:Av (C:=C) d (.callD f args) bx aC=some (v,bx1)):bx1=bx:=by
 simp only[Av]at h;generalize AV (cat AC.keys (cat TV.cellsOf args)) []=keys at h;cases I:C.spec f with
 |none=>rw[I]at h;simp at h
 |some g=>
  rw[I]at h;dsimp only at h;split at h
  ·rename_i M;simp only[ai]at M;split at h
   ·rename_i N L;split at h
    ·rename_i U O S;split at h
     ·simp only[am,cd]at h;have e:=D.2.1 f g I G _ _ _ _ S;simp only[Mem.mk.injEq,jd]at e;rw[<-h.2,e];exact Qzp keys [] N rfl (by simpa using L) (λk T=>Au.1 M.1.2 k T)
     ·simp at h
    ·simp at h
   ·simp at h
  ·simp at h
theorem Zmk (X:Ai P C) {di Y:Option Tmp} {pi pj:Prim} {bx bx1 M:List (Nat×Box)} {aC:List (Nat×Row)} {vi vj:TV} (L:Av (C:=C) di pi bx aC=some (vi,bx1)) (D:Av (C:=C) Y pj bx1 aC=some (vj,M))
  (hm:Prim.meet C.ro (some pi) (some pj)=false) (hd:∀t,di=some t->Y≠some t) (a9:Prim.wf bx aC pj):
  ∃a8,Av (C:=C) Y pj bx aC=some (vj,a8)/\Av (C:=C) di pi a8 aC=some (vi,M):=by
 have b0:∀{a b:Nat},Nat.beq a b=false->a≠b:=λh e=>by subst e;simp at h
 cases pi<;>simp only[Av]at L<;>try (simp at L;done)
 case val v=>simp at L;obtain⟨rfl,rfl⟩:=L;exact⟨M,D,rfl⟩
 case newView e ks l=>simp at L;obtain⟨rfl,rfl⟩:=L;exact⟨M,D,rfl⟩
 case rload g sz id idx sub=>
  obtain⟨rfl,hc⟩:=Oq (C:=C) (d:=di) (by simpa only[Av]using L);exact⟨M,D,hc _ _⟩
 case callD f args=>
  obtain⟨U,rfl,a0,_,hc⟩:=Uk (C:=C) (d:=di) (f:=f) (args:=args) (aC:=aC) (by simpa only[Av]using L);have G:=hc di bx λ_ _=>rfl;have a3:∀k∈AV (cat AC.keys (cat TV.cellsOf args)) [],∃b,Ab bx k=some b:=Z4q (C:=C) (d:=di) (f:=f) (v:=vi) (aC:=aC) (by simpa only[Av]using G);cases pj<;>simp only[Av]at D<;>try (simp at D;done)
  case val v=>simp at D;obtain⟨rfl,rfl⟩:=D;exact⟨bx,rfl,G⟩
  case newView e ks l=>simp at D;obtain⟨rfl,rfl⟩:=D;exact⟨bx,rfl,G⟩
  case rload g sz id idx sub=>
   obtain⟨rfl,b1⟩:=Oq (C:=C) (d:=Y) (by simpa only[Av]using D);exact⟨bx,b1 _ _,G⟩
  case call f' a4=>
   obtain⟨rfl,b1⟩:=I5 (d:=Y) D;exact⟨bx,b1 _ _,G⟩
  case load g sz k' o'=>
   cases a5:C.ro f
   case true=>
    have e1:=Sq X (d:=di) a5 (aC:=aC) G;rw[e1]at D G;have e2:M=bx:=by
     repeat' split at D
     all_goals first|(simp at D;done)|(simp at D;exact D.2.symm)
    subst e2;exact⟨M,by simp only[Av];exact D,G⟩
   have V:k'∉AV (cat AC.keys (cat TV.cellsOf args)) []:=λe=>by
    have:=EN.2 e;simp only[Prim.meet,a5,Bool.not_false,Bool.true_and]at hm;rw[hm]at this;cases this
   have N:∀p∈U,k'≠nth 0 (AV (cat AC.keys (cat TV.cellsOf args)) []) (p.1-base):=λp hp e=>V (by rw[e];exact a0 p hp);rw[LL _ _ _ N]at D;refine⟨bx,?_,?_⟩
   ·simp only[Av]
    repeat' split at D
    all_goals first|(simp at D;done)|skip
    rename_i q1 _ _ q2;simp at D;obtain⟨rfl,_⟩:=D;simp only[q1,q2]
   ·have:M=Cr (AV (cat AC.keys (cat TV.cellsOf args)) []) U bx:=by
     repeat' split at D
     all_goals first|(simp at D;done)|(simp at D;exact D.2.symm)
    rw[this];exact G
  case store k' o' T=>
   have V:k'∉AV (cat AC.keys (cat TV.cellsOf args)) []:=λe=>by
    have:=EN.2 e;simp only[Prim.meet]at hm;rw[hm]at this;cases this
   have N:∀p∈U,k'≠nth 0 (AV (cat AC.keys (cat TV.cellsOf args)) []) (p.1-base):=λp hp e=>V (by rw[e];exact a0 p hp);rw[LL _ _ _ N]at D;cases h2:Ab bx k' with
   |none=>rw[h2]at D;simp at D
   |some b'=>
    rw[h2]at D;dsimp only at D;split at D
    ·rename_i a1;simp at D;obtain⟨rfl,rfl⟩:=D;refine⟨upd bx k' ⟨b'.ty,splice b'.cells o' T⟩,by simp only[Av,h2,a1,dq],?_⟩;rw[hc di _ λk a2=>C_ _ _ _ _ (by rintro rfl;exact V a2),Qem _ _ _ _ N]
    ·simp at D
  case new ty T=>
   split at D
   ·rename_i d;split at D
    ·simp at D
    ·rename_i hn;simp at D;obtain⟨rfl,rfl⟩:=D;have N:∀p∈U,d≠nth 0 (AV (cat AC.keys (cat TV.cellsOf args)) []) (p.1-base):=λp hp e=>by
      have a7:∃b,Ab bx d=some b:=a3 d (by rw[e];exact a0 p hp);obtain⟨b,hb⟩:=a7;have:∃b',Ab (Cr (AV (cat AC.keys (cat TV.cellsOf args)) []) U bx) d=some b':=QY _ _ hb;obtain⟨b',O⟩:=this;rw[hn]at O;cases O
     have a6:d∉AV (cat AC.keys (cat TV.cellsOf args)) []:=λe=>by
      obtain⟨b,hb⟩:=a3 d e;obtain⟨b',O⟩:=QY (keys:=AV (cat AC.keys (cat TV.cellsOf args)) []) U bx hb;rw[hn]at O;cases O
     rw[LL _ _ _ N]at hn;refine⟨ins bx d ⟨ty,T⟩,by simp only[Av,hn],?_⟩;rw[hc di _ λk a2=>Dg _ _ _ _ (by rintro rfl;exact a6 a2),Qaa _ _ _ _ N]
   ·simp at D
  case callD f' a4=>
   simp only[Prim.meet,Bool.not_eq_false',ai]at hm;have e1:=Sq X (d:=di) hm.1 (aC:=aC) G;rw[e1]at D G;have e2:=Sq X (d:=Y) hm.2 (aC:=aC) (f:=f') (args:=a4) (v:=vj) (bx1:=M) (by simpa only[Av]using D);subst e2;exact⟨M,by simpa only[Av]using D,G⟩
 case call f args=>
  obtain⟨rfl,hc⟩:=I5 (d:=di) L;exact⟨M,D,hc _ _⟩
 case load g sz key off=>
  cases I:Ab bx key with
  |none=>rw[I]at L;simp at L
  |some b=>
   rw[I]at L;dsimp only at L;cases h2:CJ g sz b.cells off with
   |none=>rw[h2]at L;simp at L
   |some v=>
    rw[h2]at L;simp at L;obtain⟨rfl,rfl⟩:=L;refine⟨M,D,?_⟩;have hl:Ab M key=some b:=by
     cases pj<;>simp only[Av]at D<;>try (simp at D;done)
     case val=>simp at D;rw[<-D.2];exact I
     case newView=>simp at D;rw[<-D.2];exact I
     case rload=>
      obtain⟨rfl,_⟩:=Oq (C:=C) (d:=Y) (by simpa only[Av]using D);exact I
     case callD f args=>
      cases a5:C.ro f
      case true=>
       rw[Sq X (d:=Y) a5 (aC:=aC) (args:=args) (v:=vj) (bx1:=M) (by simpa only[Av]using D)];exact I
      obtain⟨U,rfl,a0,_,_⟩:=Uk (C:=C) (d:=Y) (f:=f) (args:=args) (aC:=aC) (by simpa only[Av]using D);rw[LL _ _ _ λp hp e=>by
       have:=EN.2 (a0 p hp);rw[<-e]at this;simp only[Prim.meet,a5,Bool.not_false,Bool.true_and]at hm;rw[hm]at this;cases this]
      exact I
     case call=>
      obtain⟨rfl,_⟩:=I5 (d:=Y) D;exact I
     case load=>
      repeat' split at D
      all_goals first|(simp at D;done)|(simp at D;rw[<-D.2];exact I)
     case store k' o' T=>
      split at D
      ·split at D
       ·simp at D;rw[<-D.2,C_ _ _ _ _ (b0 hm)];exact I
       ·simp at D
      ·simp at D
     case new ty cs=>
      split at D
      ·rename_i d;split at D
       ·simp at D
       ·rename_i hn;simp at D;rw[<-D.2,Dg _ _ _ _ (by rintro rfl;rw[hn]at I;simp at I)];exact I
      ·simp at D
    simp only[Av,hl,h2]
 case store key off cs=>
  cases I:Ab bx key with
  |none=>rw[I]at L;simp at L
  |some b=>
   rw[I]at L;dsimp only at L;split at L
   ·rename_i hle;simp at L;obtain⟨rfl,rfl⟩:=L;cases pj<;>simp only[Av]at D<;>try (simp at D;done)
    case val v=>simp at D;obtain⟨rfl,rfl⟩:=D;exact⟨bx,rfl,by simp only[Av,I,hle,dq]⟩
    case newView e ks l=>simp at D;obtain⟨rfl,rfl⟩:=D;exact⟨bx,rfl,by simp only[Av,I,hle,dq]⟩
    case rload g sz id idx sub=>
     obtain⟨rfl,hc⟩:=Oq (C:=C) (d:=Y) (by simpa only[Av]using D);exact⟨bx,hc _ _,by simp only[Av,I,hle,dq]⟩
    case callD f args=>
     obtain⟨U,rfl,a0,_,hc⟩:=Uk (C:=C) (d:=Y) (f:=f) (args:=args) (aC:=aC) (by simpa only[Av]using D);have V:key∉AV (cat AC.keys (cat TV.cellsOf args)) []:=λe=>by
      have:=EN.2 e;simp only[Prim.meet]at hm;rw[hm]at this;cases this
     have N:∀p∈U,key≠nth 0 (AV (cat AC.keys (cat TV.cellsOf args)) []) (p.1-base):=λp hp e=>V (by rw[e];exact a0 p hp);refine⟨_,hc Y bx λk a2=>(C_ _ _ _ _ (by rintro rfl;exact V a2)).symm,?_⟩;simp only[Av];rw[LL _ _ _ N,I];simp only[hle,dq];rw[Qem _ _ _ _ N]
    case call f args=>
     obtain⟨rfl,hc⟩:=I5 (d:=Y) D;exact⟨bx,hc _ _,by simp only[Av,I,hle,dq]⟩
    case load g sz k' o'=>
     have V:=b0 hm;rw[C_ _ _ _ _ (λe=>V e.symm)]at D;refine⟨bx,?_,?_⟩
     ·simp only[Av]
      repeat' split at D
      all_goals first|(simp at D;done)|skip
      rename_i q1 _ _ q2;simp at D;obtain⟨rfl,_⟩:=D;simp only[q1,q2]
     ·have:M=upd bx key ⟨b.ty,splice b.cells off cs⟩:=by
       repeat' split at D
       all_goals first|(simp at D;done)|(simp at D;exact D.2.symm)
      subst this;simp only[Av,I,hle,dq]
    case store k' o' T=>
     have V:=b0 hm;rw[C_ _ _ _ _ (λe=>V e.symm)]at D;cases h2:Ab bx k' with
     |none=>rw[h2]at D;simp at D
     |some b'=>
      rw[h2]at D;dsimp only at D;split at D
      ·rename_i a1;simp at D;obtain⟨rfl,rfl⟩:=D;refine⟨upd bx k' ⟨b'.ty,splice b'.cells o' T⟩,by simp only[Av,h2,a1,dq],?_⟩;simp only[Av];rw[C_ _ _ _ _ V,I];simp only[hle,dq];rw[Vi _ _ _ _ _ V]
      ·simp at D
    case new ty T=>
     split at D
     ·rename_i d;split at D
      ·simp at D
      ·rename_i hn;simp at D;obtain⟨rfl,rfl⟩:=D;have a6:d≠key:=by
        rintro rfl;rw[Eu _ _ _ _ I]at hn;simp at hn
       rw[C_ _ _ _ _ a6]at hn;refine⟨ins bx d ⟨ty,T⟩,by simp only[Av,hn],?_⟩;simp only[Av];rw[Dg _ _ _ _ (λe=>a6 e.symm),I];simp only[hle,dq];rw[Sg _ _ _ _ _ a6]
     ·simp at D
   ·simp at L
 case new ty cs=>
  cases b2:di with
  |none=>rw[b2]at L;simp at L
  |some d=>
   rw[b2]at L;dsimp only at L;cases I:Ab bx d with
   |some _=>rw[I]at L;simp at L
   |none=>
    rw[I]at L;simp at L;obtain⟨rfl,rfl⟩:=L;have S:∀bb,Ab bb d=none->Av (C:=C) (some d) (.new ty cs) bb aC=some (.c (.ptr d 0),ins bb d ⟨ty,cs⟩):=by
     intro bb hb;simp only[Av,hb]
    cases pj<;>simp only[Av]at D<;>try (simp at D;done)
    case val v=>simp at D;obtain⟨rfl,rfl⟩:=D;exact⟨bx,rfl,S bx I⟩
    case newView e ks l=>simp at D;obtain⟨rfl,rfl⟩:=D;exact⟨bx,rfl,S bx I⟩
    case rload g sz id idx sub=>
     obtain⟨rfl,hc⟩:=Oq (C:=C) (d:=Y) (by simpa only[Av]using D);exact⟨bx,hc _ _,S bx I⟩
    case callD f args=>
     obtain⟨U,rfl,a0,_,hc⟩:=Uk (C:=C) (d:=Y) (f:=f) (args:=args) (aC:=aC) (by simpa only[Av]using D);have V:d∉AV (cat AC.keys (cat TV.cellsOf args)) []:=λe=>by
      obtain⟨b,hb⟩:=Zz8 a9 e;rw[I]at hb;cases hb
     have N:∀p∈U,d≠nth 0 (AV (cat AC.keys (cat TV.cellsOf args)) []) (p.1-base):=λp hp e=>V (by rw[e];exact a0 p hp);refine⟨_,hc Y bx λk a2=>(Dg _ _ _ _ (by rintro rfl;exact V a2)).symm,?_⟩;rw[S _ (by rw[LL _ _ _ N];exact I),Qaa _ _ _ _ N]
    case call f args=>
     obtain⟨rfl,hc⟩:=I5 (d:=Y) D;exact⟨bx,hc _ _,S bx I⟩
    case load g sz k' o'=>
     obtain⟨b',O⟩:=a9;have V:k'≠d:=by rintro rfl;rw[I]at O;simp at O
     rw[Dg _ _ _ _ V]at D;refine⟨bx,?_,?_⟩
     ·simp only[Av]
      repeat' split at D
      all_goals first|(simp at D;done)|skip
      rename_i q1 _ _ q2;simp at D;obtain⟨rfl,_⟩:=D;simp only[q1,q2]
     ·have:M=ins bx d ⟨ty,cs⟩:=by
       repeat' split at D
       all_goals first|(simp at D;done)|(simp at D;exact D.2.symm)
      subst this;exact S bx I
    case store k' o' T=>
     obtain⟨⟨b',O⟩,_⟩:=a9;have V:k'≠d:=by rintro rfl;rw[I]at O;simp at O
     rw[Dg _ _ _ _ V,O]at D;dsimp only at D;split at D
     ·rename_i a1;simp at D;obtain⟨rfl,rfl⟩:=D;refine⟨upd bx k' ⟨b'.ty,splice b'.cells o' T⟩,by simp only[Av,O,a1,dq],?_⟩;rw[S _ (by rw[C_ _ _ _ _ (λe=>V e.symm)];exact I),Sg _ _ _ _ _ (λe=>V e.symm)]
     ·simp at D
    case new b5 T=>
     cases b3:Y with
     |none=>rw[b3]at D;simp at D
     |some e=>
      rw[b3]at D;dsimp only at D;have b4:d≠e:=by rintro rfl;exact hd d b2 b3
      rw[Dg _ _ _ _ (λq=>b4 q.symm)]at D;cases h2:Ab bx e with
      |some _=>rw[h2]at D;simp at D
      |none=>
       rw[h2]at D;simp at D;obtain⟨rfl,rfl⟩:=D;refine⟨ins bx e ⟨b5,T⟩,by simp only[Av,h2],?_⟩;rw[S _ (by rw[Dg _ _ _ _ b4];exact I),Zq _ _ _ _ _ b4]
end
open Go.RowKit
structure WFst (s : St) : Prop where
 t:∀v∈s.tmps,TV.wf s.aB s.aC v
 b:∀(k:Nat) (b:Box),Ab s.aB k=some b->∀a∈b.cells,AC.wf s.aB s.aC a
section
variable {P:Program} {C:Cfg} {w:World} {R:Type} {Z:Base}
theorem Z6g {d:Option Tmp} {f:FuncId} {args:List TV} {bx D:List (Nat×Box)} {aC:List (Nat×Row)} {v:TV} (h:Av (C:=C) d (.call f args) bx aC=some (v,D)):TV.wf D aC v:=by
 simp only[Av]at h;split at h
 ·split at h
  ·split at h
   ·split at h
    ·rename_i G;simp at h;obtain⟨rfl,_⟩:=h;simp only[ai]at G;exact I3 G.2
    ·simp at h
   ·simp at h
  ·simp at h
 ·simp at h
theorem Q3p {bx:List (Nat×Box)} {aC:List (Nat×Row)}:∀(ks:List Kd) (cs:List AC) (j:Nat),∀c∈Er ks cs j,AC.wf bx aC c
 |[],_,_,c,D=>by simp[Er]at D
 |k::ks,cs,j,c,D=>by
  simp only[Er,ax]at D;rcases D with rfl|D
  ·cases k<;>try exact trivial
   generalize nth AC.vD cs j=b;cases b<;>exact trivial
  ·exact Q3p ks cs _ c D
theorem Q15 {α:Type}:∀(l:List (Nat×α)) (k:Nat) (x:α),Ab l k=none->Ab (upd l k x) k=none
 |[],_,_,_=>rfl
 |(j,c)::l,k,x,h=>by
  simp only[Ab]at h;cases hb:Nat.beq j k<;>rw[hb]at h
  ·simp only[upd,hb,aq,Ab];exact Q15 l k x h
  ·simp at h
theorem Qtt {keys:List Nat}:∀(m:List (Nat×Box)) (l:List (Nat×Box)) {n:Nat} {b:Box},Ab (Cr keys m l) n=some b->Ab l n=some b\/∃p∈m,p.2=b
 |[],_,_,_,h=> .inl h
 |(j,c)::m,l,n,b,h=>by
  simp only[Cr]at h;rcases Qtt m _ h with h|⟨p,G,e⟩
  ·by_cases e:n=nth 0 keys (j-base)
   ·subst e;cases D:Ab l (nth 0 keys (j-base))with
    |none=>rw[Q15 _ _ _ D]at h;cases h
    |some y=>
     rw[Eu _ _ _ _ D]at h;simp at h;subst h;exact .inr ⟨(j,c),by simp,rfl⟩
   ·rw[C_ _ _ _ _ e]at h;exact .inl h
  ·exact .inr ⟨p,by simp[G],e⟩
theorem Quc {d:Option Tmp} {f:FuncId} {args:List TV} {bx I:List (Nat×Box)} {aC:List (Nat×Row)} {v:TV} (h:Av (C:=C) d (.callD f args) bx aC=some (v,I)):
  ∃D,I=Cr (AV (cat AC.keys (cat TV.cellsOf args)) []) D bx/\True/\v.plainB=true/\∀p∈D,Ak AC.calm p.2.cells=true:=by
 simp only[Av]at h;generalize AV (cat AC.keys (cat TV.cellsOf args)) []=keys at h⊢
 repeat' split at h
 all_goals first|(simp at h;done)|skip
 rename_i L D _ G;simp only[am,cd]at h;obtain⟨rfl,rfl⟩:=h;simp only[ai]at G;exact⟨D,rfl,trivial,G.2,Au.1 G.1.2⟩
theorem Z8f {ops:List Oper} {o:Oper} {tm:List TV} {bx T:List (Nat×Box)} {aC:List (Nat×Row)} {p:Option Prim} {v:TV} (N:WFst ⟨tm,bx,aC⟩) (h:C8 P C ops o tm bx aC=some (p,v,T)):
  WFst ⟨tm,T,aC⟩/\TV.wf T aC v/\∀q,p=some q->Prim.wf bx aC q:=by
 unfold C8 at h;split at h
 ·cases S:opK P C (AG tm) o.dst o.op some with
  |none=>rw[S]at h;simp at h
  |some q=>
   rw[S]at h;simp only[af]at h;have V:=YJ (pre:=false) (Qax (aB:=bx) (aC:=aC) (λx=>ZF N.t x) S);clear S;generalize q.dr false=q at h V⊢;cases D:Av (C:=C) o.dst q bx aC with
   |none=>rw[D]at h;simp at h
   |some z=>
    rw[D]at h;simp at h;obtain⟨rfl,rfl,rfl⟩:=h;have O:∀{U:List (Nat×Box)},(∀a,AC.wf bx aC a->AC.wf U aC a)->(∀(k:Nat) (b:Box),Ab U k=some b->∀a∈b.cells,AC.wf bx aC a)->WFst ⟨tm,U,aC⟩:=
     λI hb=>⟨λv X=>TV.wf_mono I (N.t v X),λk b G a D=>I a (hb k b G a D)⟩
    refine⟨?_,?_,λq' e=>by simp at e;subst e;exact V⟩;all_goals
     cases q<;>simp only[Av]at D<;>try (simp at D;done)
    ·simp at D;subst D;exact N
    ·repeat' split at D
     all_goals first|(simp at D;done)|(simp at D;subst D;exact N)
    ·rename_i key off cs;split at D
     ·rename_i b hb;split at D
      ·simp at D;subst D;refine O (λa => AC.wf_mono (λk bo M => by
        by_cases L:k=key
        ·subst L;exact⟨_,Eu _ _ _ _ hb⟩
        ·exact⟨bo,by rw[C_ _ _ _ _ L];exact M⟩) (λk r G=>⟨r,G,rfl,rfl⟩)) ?_
       intro k bo G a I;by_cases L:k=key
       ·subst L;rw[Eu _ _ _ _ hb]at G;simp at G;subst G;rcases Uw _ _ _ I with I|I
        ·exact N.b k b hb a I
        ·exact V.2 a I
       ·rw[C_ _ _ _ _ L]at G;exact N.b k bo G a I
      ·simp at D
     ·simp at D
    ·rename_i ty cs;split at D
     ·rename_i d hd;split at D
      ·simp at D
      ·rename_i hn;simp at D;subst D;refine O (λa=>AC.wf_mono (λk bo M=>⟨bo,by rw[Dg _ _ _ _ (by rintro rfl;rw[hn]at M;simp at M)];exact M⟩) (λk r G=>⟨r,G,rfl,rfl⟩)) ?_;intro k bo G a I;by_cases L:k=d
       ·subst L;rw[Ed _ _ _ hn]at G;simp at G;subst G;exact V a I
       ·rw[Dg _ _ _ _ L]at G;exact N.b k bo G a I
     ·simp at D
    ·rename_i g sz id idx sub;obtain⟨z1,z2⟩:=z;obtain⟨rfl,_⟩:=Oq (C:=C) (d:=o.dst) (by simpa only[Av]using D);exact N
    ·simp at D;subst D;exact N
    ·obtain⟨rfl,_⟩:=I5 (d:=o.dst) D;exact N
    ·rename_i f args;obtain⟨z1,z2⟩:=z;obtain⟨a0,rfl,a2,_,Y⟩:=Quc (C:=C) (d:=o.dst) (f:=f) (args:=args) (aC:=aC) (by simpa only[Av]using D);refine O (λa=>AC.wf_mono (λk bo M=>QY _ _ M) (λk r G=>⟨r,G,rfl,rfl⟩)) ?_;intro k bo G a I;rcases Qtt _ _ G with G|⟨p,S,rfl⟩
     ·exact N.b k bo G a I
     ·exact Qxu (Y p S) a I
    ·simp at D;subst D;exact V
    ·split at D
     ·rename_i b hb;split at D
      ·rename_i v X;simp at D;subst D;exact QV X (N.b _ b hb)
      ·simp at D
     ·simp at D
    ·repeat' split at D
     all_goals first|(simp at D;done)|(simp at D;subst D;trivial)
    ·rename_i ty cs;split at D
     ·rename_i d hd;split at D
      ·simp at D
      ·rename_i hn;simp at D;subst D;exact Cn ⟨_,Ed _ _ _ hn⟩
     ·simp at D
    ·split at D
     ·rename_i r hr;split at D
      ·rename_i v X;simp at D;subst D;exact QV X λa I=>Q3p r.ks _ 0 a I
      ·simp at D
     ·simp at D
    ·simp at D;subst D;exact Cn trivial
    ·rename_i f args;exact Z6g (d:=o.dst) D
    ·rename_i f args;obtain⟨z1,z2⟩:=z;obtain⟨a0,_,_,a1,_⟩:=Quc (C:=C) (d:=o.dst) (f:=f) (args:=args) (aC:=aC) (by simpa only[Av]using D);exact I3 a1
 ·simp at h;obtain⟨rfl,rfl,rfl⟩:=h;exact⟨N,λp S=>by simp at S,λq e=>by simp at e⟩
 ·simp at h
theorem Zx {tm:List TV} {bx:List (Nat×Box)} {aC:List (Nat×Row)} {d:Option Tmp} {v:TV} (G:WFst ⟨tm,bx,aC⟩) (I:TV.wf bx aC v):WFst ⟨CH tm d v,bx,aC⟩:=by
 cases d with
 |none=>exact G
 |some t=>
  refine⟨λu D=> ?_,G.b⟩;simp only[CH,Im]at D;rcases f7 D with D|rfl
  ·exact G.t u D
  ·exact I
theorem Zlk {id:Nat} {bx:List (Nat×Box)} {k:Nat} {b:Box} (h:Ab (bx.map λp=>(p.1,p.2.kill id)) k=some b):∃b',Ab bx k=some b'/\b=b'.kill id:=by
 have:=E_ (Box.kill id) bx k;rw[this]at h;simp only[bh]at h;obtain⟨b',D,rfl⟩:=h;exact⟨b',D,rfl⟩
theorem V_ {bx:List (Nat×Box)} {aC D:List (Nat×Row)} {id:Nat} (O:∀j,j≠id->Ab D j=Ab aC j) {a:AC} (h:AC.wf bx aC a):AC.wf (bx.map λp=>(p.1,p.2.kill id)) D (a.kill id):=by
 have hb:∀k b,Ab bx k=some b->∃b',Ab (bx.map λp=>(p.1,p.2.kill id)) k=some b':=λk b T=>⟨b.kill id,by have:=E_ (Box.kill id) bx k;rw[this,T];rfl⟩;have S:∀c,AC.wfP bx c->AC.wfP (bx.map λp=>(p.1,p.2.kill id)) c:=by
  intro c I;cases c<;>try exact trivial
  obtain⟨b,G⟩:=I;exact hb _ _ G
 cases a<;>try exact trivial
 case ptr k o=>
  obtain⟨b,G⟩:=h;exact hb _ _ G
 case bsl k o=>
  obtain⟨b,G⟩:=h;exact hb _ _ G
 case own j w n=>
  simp only[AC.kill];cases L:Nat.beq j id
  ·obtain⟨r,M,N⟩:=h;exact⟨r,by rw[O j (GK L)];exact M,N⟩
  ·exact trivial
 case rptr j a b=>
  simp only[AC.kill];cases L:Nat.beq j id
  ·obtain⟨r,M,N⟩:=h;exact⟨r,by rw[O j (GK L)];exact M,N⟩
  ·exact trivial
 case vptr cs sub=>exact h
 case clo f fs cs=>exact⟨λc I=>S c (h.1 c I),λc I=>S c (h.2 c I)⟩
theorem Z3g {dst:Option Tmp} {aC D:List (Nat×Row)} {p:Prim} {id:Nat} {v:TV} (I:Ka dst p=some id) (G:Kx dst aC p=some (v,D)):(∀j,j≠id->Ab D j=Ab aC j)/\TV.wf [] D v:=by
 cases p<;>simp[Ka]at I
 rename_i e ks bytes M x;cases M<;>simp at I
 case nilSl=>
  subst I;simp only[Kx,Qkx]at G
  repeat' split at G
  all_goals first|(simp at G;done)|skip
  rename_i N _ _;simp only[am,cd]at G;obtain⟨rfl,rfl⟩:=G;refine⟨λj L=>Dg _ _ _ _ L,Cn ?_⟩;exact⟨_,Ed _ _ _ N,rfl,rfl⟩
 rename_i id' w n;subst I;simp only[Kx,Qch]at G
 repeat' split at G
 all_goals first|(simp at G;done)|skip
 rename_i r O _ _;simp only[am,cd]at G;obtain⟨rfl,rfl⟩:=G;refine⟨λj L=>C_ _ _ _ _ L,Cn ?_⟩;exact⟨_,Eu _ _ _ _ O,rfl,rfl⟩
theorem Qz0 {aC rows':List (Nat×Row)}:∀{args:List TV},Ak TV.plainB args=true->E2 aC args=E2 rows' args
 |[],_=>rfl
 |a::l,h=>by
  simp only[Ak]at h;have G:a.plainB=true/\Ak TV.plainB l=true:=by cases L:a.plainB<;>rw[L]at h<;>simp at h;exact⟨rfl,h⟩
  have e:a.res aC=a.res rows':=by
   cases a with
   |vD=>rfl
   |tup ps=>rfl
   |v g cs=>
    simp only[TV.res];have:Ee aC cs=Ee rows' cs:=by
     have D:=G.1;simp only[TV.plainB]at D;clear h G;induction cs with
     |nil=>rfl
     |cons c cs M=>
      simp only[Ak]at D;have I:c.plain=true/\Ak AC.plain cs=true:=by cases N:c.plain<;>rw[N]at D<;>simp at D;exact⟨rfl,D⟩
      simp only[Ee];rw[M I.2];have:c.res aC=c.res rows':=by
       have:=I.1;cases c<;>simp[AC.plain]at this<;>rfl
      rw[this]
    rw[this]
  simp only[E2];rw[e,Qz0 G.2]
theorem Z2e {dst:Option Tmp} {aC G:List (Nat×Row)} {p:Prim} {v:TV} (h:mkD (C:=C) dst p aC=some (v,G)):(∀j r,Ab aC j=some r->Ab G j=some r)/\TV.wf [] G v:=by
 unfold mkD at h;cases D:mkG (C:=C) dst p with
 |none=>rw[D]at h;simp at h
 |some q=>
  obtain⟨O,o⟩:=q;rw[D]at h;cases o with
  |none=>
   simp only[am,cd]at h;obtain⟨rfl,rfl⟩:=h;refine⟨λ_ _ h=>h,?_⟩;unfold mkG at D;split at D
   ·split at D<;>simp at D
   ·split at D
    ·split at D
     ·split at D
      ·split at D
       ·rename_i M;simp only[am,cd]at D;rw[<-D.1];exact I3 M
       ·simp at D
      ·split at D<;>simp at D
      ·simp at D
     ·simp at D
    ·simp at D
   ·simp at D
  |some N=>
   obtain⟨k,r⟩:=N;dsimp only at h;split at h
   ·simp at h
   ·rename_i I;simp only[am,cd]at h;obtain⟨rfl,rfl⟩:=h;refine⟨λj r' L=>by rw[Dg _ _ _ _ (by rintro rfl;rw[I]at L;cases L)];exact L,?_⟩;unfold mkG at D;split at D
    ·split at D
     ·simp only[am,cd]at D;obtain⟨rfl,rfl,rfl⟩:=D;exact Cn ⟨_,Ed _ _ _ I,rfl,rfl⟩
     ·simp at D
    ·split at D
     ·split at D
      ·split at D
       ·split at D<;>simp at D
       ·split at D
        ·simp only[am,cd]at D;obtain⟨rfl,rfl,rfl⟩:=D;exact Cn ⟨_,Ed _ _ _ I,rfl,rfl⟩
        ·simp at D
       ·simp at D
      ·simp at D
     ·simp at D
    ·simp at D
theorem Z6z {ops:List Oper} {o:Oper} {s X:St} {p:Option Prim} (N:WFst s) (h:B8 (P:=P) (C:=C) ops o s=some (p,X)):WFst X:=by
 obtain⟨tm,bx,aC⟩:=s;cases Y:Prim.isApp p
 ·cases O:Prim.isMk p
  case true=>
   obtain⟨_,q,v,D,_,rfl,T,rfl⟩:=Tz h O;obtain⟨S,U⟩:=Z2e T;have G:∀a,AC.wf bx aC a->AC.wf bx D a:=λa=>AC.wf_mono (λk b I=>⟨b,I⟩) (λk r I=>⟨r,S k r I,rfl,rfl⟩);exact Zx ⟨λu M=>TV.wf_mono G (N.t u M),λk b I a hm=>G a (N.b k b I a hm)⟩ (TV.wf_mono (λa G=>AC.wf_mono (aB:=[]) (aC:=D) (λk b I=>by simp[Ab]at I) (λk r I=>⟨r,I,rfl,rfl⟩) G) U)
  obtain⟨v,a0,L,rfl⟩:=Mg h Y O;obtain⟨h1,h2,_⟩:=Z8f N L;exact Zx h1 h2
 ·obtain⟨_,q,id,v,D,_,rfl,h3,T,rfl⟩:=Qgw h Y;obtain⟨S,U⟩:=Z3g h3 T;refine Zx ⟨λu M=> ?_,λk b I a G=> ?_⟩ (TV.wf_mono (λa G=>AC.wf_mono (aB:=[]) (aC:=D) (λk b I=>by simp[Ab]at I) (λk r I=>⟨r,I,rfl,rfl⟩) G) U)
  ·simp only[av]at M;obtain⟨u,M,rfl⟩:=M;have:=N.t u M;cases u with
   |vD=>trivial
   |v g cs=>
    intro a G;simp only[av]at G;obtain⟨c,L,rfl⟩:=G;exact V_ S (this c L)
   |tup ps=>
    intro p hp a G;simp only[av]at hp;obtain⟨q,hq,rfl⟩:=hp;simp only[av]at G;obtain⟨c,L,rfl⟩:=G;exact V_ S (this q hq c L)
  ·obtain⟨b',V,rfl⟩:=Zlk I;simp only[Box.kill,av]at G;obtain⟨c,L,rfl⟩:=G;exact V_ S (N.b k b' V c L)
theorem Q92 {o:Op} {p:Option Prim} (h:Prim.still o p=true):Prim.isMk p=false:=by
 cases p with
 |none=>rfl
 |some q=>cases q<;>first|rfl|(cases o<;>simp[Prim.still,Prim.isLive,Prim.isPtr,Prim.isCallP,Prim.isLoad,Prim.isView]at h)
theorem Z8z {d:Option Tmp} {p:Prim} {bx G:List (Nat×Box)} {aC:List (Nat×Row)} {v:TV} (I:Prim.mkStill (some p)=true) (h:Av (C:=C) d p bx aC=some (v,G)):
  G=bx/\∀D,Av (C:=C) d p bx D=some (v,bx):=by
 cases p<;>simp[Prim.mkStill]at I
 case val u=>simp only[Av,am,cd]at h⊢;obtain⟨rfl,rfl⟩:=h;exact⟨rfl,λ_=>by simp⟩
 case newView e ks l=>simp only[Av,am,cd]at h⊢;obtain⟨rfl,rfl⟩:=h;exact⟨rfl,λ_=>by simp⟩
 case load g sz key off=>
  simp only[Av]at h⊢
  repeat' split at h
  all_goals first|(simp at h;done)|skip
  simp at h;obtain⟨rfl,rfl⟩:=h;exact⟨rfl,λ_=>rfl⟩
 case call f args=>
  obtain⟨rfl,_⟩:=I5 h;refine⟨rfl,λD=> ?_⟩;simp only[Av]at h⊢;rw[Qz0 (aC:=D) (rows':=aC) I];exact h
 case newRow e ks l=>simp[Av]at h
 case callF f args=>simp[Av]at h
theorem Q5b {ops:List Oper} {o:Oper} {tm:List TV} {bx G:List (Nat×Box)} {aC:List (Nat×Row)} {p:Option Prim} {v:TV} (M:Prim.mkStill p=true) (h:C8 P C ops o tm bx aC=some (p,v,G)):
  G=bx/\∀D,C8 P C ops o tm bx D=some (p,v,bx):=by
 unfold C8 at h⊢;split at h
 ·cases L:opK P C (AG tm) o.dst o.op some with
  |none=>rw[L]at h;simp at h
  |some q=>
   rw[L]at h;simp only[af]at h⊢;cases I:Av (C:=C) o.dst (q.dr false) bx aC with
   |none=>rw[I]at h;simp at h
   |some z=>
    rw[I]at h;simp at h;obtain⟨rfl,rfl,rfl⟩:=h;obtain⟨e1,e2⟩:=Z8z M I;refine⟨e1,λD=> ?_⟩;rw[e2 D];rfl
 ·simp at h;obtain⟨rfl,rfl,rfl⟩:=h;exact⟨rfl,λ_=>rfl⟩
 ·simp at h
theorem Zyh {U V:Option Tmp} {X Y:Prim} {aC I D:List (Nat×Row)} {vi vj:TV} (M:mkD (C:=C) U X aC=some (vi,I)) (L:mkD (C:=C) V Y I=some (vj,D)):
  ∃G,mkD (C:=C) V Y aC=some (vj,G)/\mkD (C:=C) U X G=some (vi,D):=by
 unfold mkD at*;cases S:mkG (C:=C) U X with
 |none=>rw[S]at M;simp at M
 |some qi=>
  obtain⟨v1,o1⟩:=qi;rw[S]at M;cases T:mkG (C:=C) V Y with
  |none=>rw[T]at L;simp at L
  |some qj=>
   obtain⟨v2,o2⟩:=qj;rw[T]at L;cases o1 with
   |none=>
    simp only[am,cd]at M;obtain⟨rfl,rfl⟩:=M;exact⟨D,L,rfl⟩
   |some k1=>
    obtain⟨k,r⟩:=k1;dsimp only at M;split at M
    ·simp at M
    rename_i hn;simp only[am,cd]at M;obtain⟨rfl,rfl⟩:=M;cases o2 with
    |none=>
     simp only[am,cd]at L;obtain⟨rfl,rfl⟩:=L;refine⟨aC,rfl,?_⟩;dsimp only;rw[hn]
    |some k2=>
     obtain⟨k',r'⟩:=k2;dsimp only at L;split at L
     ·simp at L
     rename_i N;simp only[am,cd]at L;obtain⟨rfl,rfl⟩:=L;have O:k'≠k:=by
      rintro rfl;rw[Ed _ _ _ hn]at N;cases N
     rw[Dg _ _ _ _ O]at N;refine⟨ins aC k' r',by dsimp only;rw[N],?_⟩;dsimp only;rw[Dg _ _ _ _ (λe=>O e.symm),hn];dsimp only;rw[Zq _ _ _ _ _ O]
theorem Z1y (b1:Ai P C) {ops:Array Oper} {x y:Oper} {s s1 s2:St} {px py:Option Prim} (hw:WFst s) (hy:B8 (P:=P) (C:=C) ops.toList y s=some (py,s1)) (hx:B8 (P:=P) (C:=C) ops.toList x s1=some (px,s2))
  (c0:Oper.apart ops y x=true) (hm:Prim.meet C.ro py px=false) (I:If y py x px=true):∃b5,B8 (P:=P) (C:=C) ops.toList x s=some (px,b5)/\B8 (P:=P) (C:=C) ops.toList y b5=some (py,s2):=by
 obtain⟨a1,a2,a3⟩:=Oper.apart_spec c0;obtain⟨tm,bx,aC⟩:=s;have M:∀(o:Oper) (tm:List TV),o.guard.isNone=true->BR ops.toList o tm=some true:=by
  intro o tm h;unfold BR;rw[Option.isNone_iff_eq_none.1 h]
 have N:∀(o:Oper) (tm:List TV) (d:Option Tmp) (v:TV),(∀t,d=some t->t∉o.looksAt ops)->opK P C (AG (CH tm d v)) o.dst o.op some=opK P C (AG tm) o.dst o.op some:=by
  intro o tm d v h;cases d with
  |none=>rfl
  |some t=>
   exact IG (λx hx => Qvr (by
    rintro rfl;exact h t rfl (List.mem_append_left _ (List.mem_filterMap.2 ⟨.tmp t,by simpa using hx,rfl⟩)))) some
 cases X:Prim.isApp py
 case true=>
  unfold If at I;rw[X]at I;simp only[ag,ai]at I;obtain⟨⟨⟨o1,o2⟩,o3⟩,o4⟩:=I;have Y:Prim.isApp px=false:=by simpa using o1
  obtain⟨_,q,id,vy,a6,hq,rfl,h3,h4,rfl⟩:=Qgw hy X;obtain⟨vx,a7,D,rfl⟩:=Mg hx Y (Q92 o4);unfold C8 at D;rw[M x _ o3]at D;dsimp only at D;rw[N x _ _ _ (λt L=>a1 t L)]at D;cases a0:opK P C (AG (tm.map (TV.kill id))) x.dst x.op some with
  |none=>rw[a0]at D;simp at D
  |some qx=>
   rw[a0]at D;simp only[af]at D;cases S:Av (C:=C) x.dst (qx.dr false) (bx.map λp=>(p.1,p.2.kill id)) a6 with
   |none=>rw[S]at D;simp at D
   |some zx=>
    rw[S]at D;simp at D;obtain⟨rfl,rfl,rfl⟩:=D;obtain⟨vx,a7⟩:=zx;obtain⟨rfl,u,rfl,b2⟩:=(Q1v (bx:=bx) o4).2 S;have b6:=(Qve (P:=P) (C:=C) (id:=id) (tm:=tm) (dst:=x.dst) o4).1 a0;refine⟨⟨CH tm x.dst u,bx,aC⟩,Oo (by unfold C8;rw[M x _ o3];dsimp only;rw[b6];simp only[af];rw[b2 aC];rfl),?_⟩;rw[Q0y (M y _ o2) (by rw[N y _ _ _ (λt L=>a3 t L)];exact hq) h3 h4 X,Qya];dsimp only;rw[Ob vy _ a2]
 case false=>
 cases Y:Prim.isApp px
 case true=>
  unfold If at I;rw[X,Y]at I;simp only[ag,aq,ai]at I;obtain⟨⟨o2,o3⟩,o4⟩:=I;obtain⟨vy,b3,G,rfl⟩:=Mg hy X (Q92 o4);obtain⟨_,q,id,vx,a6,hq,rfl,h3,h4,rfl⟩:=Qgw hx Y;rw[N x _ _ _ (λt L=>a1 t L)]at hq;unfold C8 at G;rw[M y _ o2]at G;dsimp only at G;cases a5:opK P C (AG tm) y.dst y.op some with
  |none=>rw[a5]at G;simp at G
  |some qy=>
   rw[a5]at G;simp only[af]at G;cases T:Av (C:=C) y.dst (qy.dr false) bx aC with
   |none=>rw[T]at G;simp at G
   |some zy=>
    rw[T]at G;simp at G;obtain⟨rfl,rfl,rfl⟩:=G;obtain⟨vy,b3⟩:=zy;obtain⟨rfl,b2⟩:=(Q1v (id:=id) (bx:=bx) o4).1 T;have b7:=(Qve (P:=P) (C:=C) (id:=id) (tm:=tm) (dst:=y.dst) o4).2 a5;refine⟨_,Q0y (M x _ o3) hq h3 h4 Y,?_⟩;rw[Oo (p:=some (qy.dr false)) (v:=vy.kill id) (by unfold C8;rw[M y _ o2];dsimp only;rw[N y _ _ _ (λt L=>a3 t L),b7];simp only[af];rw[b2];rfl)];dsimp only;rw[Qya,Ob vx _ (λt L e=>a2 t e L)]
 case false=>
   unfold If at I;rw[X,Y]at I;simp only[aq]at I;cases U:Prim.isMk py
   case true=>
    rw[U]at I;simp only[ag]at I;obtain⟨b0,qy,vy,c1,b8,rfl,T,rfl⟩:=Tz hy U;cases O:Prim.isMk px
    case true=>
     obtain⟨a4,qx,vx,a8,a9,rfl,S,rfl⟩:=Tz hx O;rw[Qf (λt L=>a1 t L)]at a4;rw[N x _ _ _ (λt L=>a1 t L)]at a9;obtain⟨b9,m1,m2⟩:=Zyh T S;refine⟨_,Ta a4 a9 m1 O,?_⟩;rw[Ta (by rw[Qf (λt L=>a3 t L)];exact b0) (by rw[N y _ _ _ (λt L=>a3 t L)];exact b8) m2 U,Ob vy vx a2]
    case false=>
     obtain⟨vx,a7,D,rfl⟩:=Mg hx Y O;rw[Te (λt L=>a1 t L)]at D;obtain⟨rfl,b4⟩:=Q5b I D;refine⟨_,Oo (b4 aC),?_⟩;rw[Ta (by rw[Qf (λt L=>a3 t L)];exact b0) (by rw[N y _ _ _ (λt L=>a3 t L)];exact b8) T U,Ob vy vx a2]
   case false=>
   rw[U]at I;simp only[aq]at I;cases O:Prim.isMk px
   case true=>
    rw[O]at I;simp only[ag]at I;obtain⟨vy,b3,G,rfl⟩:=Mg hy X U;obtain⟨rfl,b4⟩:=Q5b I G;obtain⟨a4,qx,vx,a8,a9,rfl,S,rfl⟩:=Tz hx O;rw[Qf (λt L=>a1 t L)]at a4;rw[N x _ _ _ (λt L=>a1 t L)]at a9;refine⟨_,Ta a4 a9 S O,?_⟩;rw[Oo (by rw[Te (λt L=>a3 t L)];exact b4 a8),Ob vy vx a2]
   case false=>
   obtain⟨vy,b3,G,rfl⟩:=Mg hy X U;obtain⟨vx,a7,D,rfl⟩:=Mg hx Y O;rw[Te (λt L=>a1 t L)]at D;have key:∃V,C8 P C ops.toList x tm bx aC=some (px,vx,V)/\C8 P C ops.toList y tm V aC=some (py,vy,a7):=by
    unfold C8 at G D⊢;split at G
    ·rename_i b0;cases a5:opK P C (AG tm) y.dst y.op some with
     |none=>rw[a5]at G;simp at G
     |some qy=>
      rw[a5]at G;simp only[af]at G;cases T:Av (C:=C) y.dst (qy.dr false) bx aC with
      |none=>rw[T]at G;simp at G
      |some zy=>
       rw[T]at G;simp at G;obtain⟨rfl,rfl,rfl⟩:=G;split at D
       ·rename_i a4;cases a0:opK P C (AG tm) x.dst x.op some with
        |none=>rw[a0]at D;simp at D
        |some qx=>
         rw[a0]at D;simp only[af]at D;cases S:Av (C:=C) x.dst (qx.dr false) zy.2 aC with
         |none=>rw[S]at D;simp at D
         |some zx=>
          rw[S]at D;simp at D;obtain⟨rfl,rfl,rfl⟩:=D;obtain⟨V,m1,m2⟩:=Zmk b1 T S hm a2 (YJ (Qax (λx=>ZF hw.t x) a0));exact⟨V,by simp[m1],by simp[m2]⟩
       ·rename_i a4;simp at D;obtain⟨rfl,rfl,rfl⟩:=D;exact⟨bx,rfl,by simp[T]⟩
       ·simp at D
    ·rename_i b0;simp at G;obtain⟨rfl,rfl,rfl⟩:=G;exact⟨a7,D,rfl⟩
    ·simp at G
   obtain⟨V,k1,k2⟩:=key;refine⟨⟨CH tm x.dst vx,V,aC⟩,Oo k1,?_⟩;rw[Oo (by rw[Te (λt L=>a3 t L)];exact k2),Ob vy vx a2]
theorem Qr8 (D:Ai P C) {ops:Array Oper} {m:List Nat} {x:Nat×Oper×Option Prim} {post:List (Nat×Oper×Option Prim)} {O:St}:∀(pre:List (Nat×Oper×Option Prim)) (s:St),WFst s->Rg P C ops.toList m (pre++x::post) s O->
  (∀y∈pre,Da ops.toList m x.1=false/\Da ops.toList m y.1=false/\Oper.apart ops y.2.1 x.2.1=true/\Prim.meet C.ro y.2.2 x.2.2=false/\If y.2.1 y.2.2 x.2.1 x.2.2=true)->
  ∃s1,H4 P C ops.toList m x.1 x.2.1 s=some (x.2.2,s1)/\Rg P C ops.toList m (pre++post) s1 O
 |[],s,L,h,_=>by
  obtain⟨i,o,p⟩:=x;exact h
 |(j,U,V)::pre,s,L,h,S=>by
  obtain⟨X,G,Y⟩:=h;obtain⟨T,I,q1,q2,q3⟩:=S (j,U,V) (by simp);have a0:=G;unfold H4 at G;rw[aa (by dsimp only at I;rw[I];simp)]at G;obtain⟨s2,M,h4⟩:=Qr8 D pre X (Z6z L G) Y λy N=>S y (by simp[N]);unfold H4 at M;rw[aa (by rw[T];simp)]at M;obtain⟨s1,h5,h6⟩:=Z1y D L G M q1 q2 q3;refine⟨s1,by unfold H4;rw[aa (by rw[T];simp)];exact h5,s2,?_,h4⟩;unfold H4;rw[aa (by dsimp only at I;rw[I];simp)];exact h6
inductive Before (ops : List Oper) : Nat -> Nat -> Prop where
 |one {i:Nat} {o:Oper} {e:Edge} (h:ops[i]? =some o) (he:e∈o.after.toList) (hb:Region.binds .any e=true):Before ops i e.on
 |more {i j:Nat} {o:Oper} {e:Edge} (h:ops[i]? =some o) (he:e∈o.after.toList) (hb:Region.binds .any e=true) (h':Before ops e.on j):Before ops i j
theorem Qi7 {m:List Nat} {j:Nat}:∀(l:List Edge) (acc:Nat),Nat.testBit (R9 m l acc) j=true->Nat.testBit acc j=true\/∃e∈l,Region.binds .any e=true/\(e.on=j\/Nat.testBit (nth 0 m e.on) j=true)
 |[],acc,h=> .inl h
 |e::l,acc,h=>by
  simp only[R9]at h;cases hb:Region.binds .any e<;>rw[hb]at h
  ·rcases Qi7 l _ h with h|⟨D,he,h'⟩
   ·exact .inl h
   ·exact .inr ⟨D,by simp[he],h'⟩
  ·rcases Qi7 l _ h with h|⟨D,he,h'⟩
   ·simp only[ag]at h;have:Nat.testBit (acc|||(2^e.on|||nth 0 m e.on)) j=true:=h;rw[Nat.testBit_or,Nat.testBit_or]at this;rw[jt,jt]at this;rcases this with h|h|h
    ·exact .inl h
    ·refine .inr ⟨e,by simp,hb, .inl ?_⟩;rw[Nat.testBit_two_pow]at h;simpa using h
    ·exact .inr ⟨e,by simp,hb, .inr h⟩
   ·exact .inr ⟨D,by simp[he],h'⟩
theorem Zo6 {α:Type} (n:Nat) (K:Nat->α):Q7q n K=K n:=by cases n<;>rfl
theorem Qvw {α:Type} (d:α):∀(l D:List α) (i:Nat),i<l.length->nth d (l++D) i=nth d l i
 |x::l,D,0,_=>rfl
 |x::l,D,i+1,h=>Qvw d l D i (by simpa using h)
theorem Qs1 {α:Type} (d x:α):∀(l:List α),nth d (l++[x]) l.length=x
 |[]=>rfl
 |y::l=>Qs1 d x l
theorem Qkt {α:Type} (d:α):∀(l:List α) (i:Nat),l.length<=i->nth d l i=d
 |[],_,_=>rfl
 |x::l,0,h=>by simp at h
 |x::l,i+1,h=>Qkt d l i (by simpa using h)
theorem Qz1 {ops:List Oper} {K:List Nat->Option R} {r:R}:∀(l pre:List Oper) (m:List Nat),ops=pre++l->m.length=pre.length->(∀i j,i<m.length->Nat.testBit (nth 0 m i) j=true->Before ops i j)->ST l m K=some r->
  ∃V,K V=some r/\∀i j,LB V i j=true->Before ops i j
 |[],pre,m,he,O,N,h=>⟨m,h,λi j D=>by
   by_cases S:i<m.length
   ·exact N i j S D
   ·unfold LB at D;rw[Qkt 0 m i (by omega)]at D;simp at D⟩
 |o::l,pre,m,he,O,N,h=>by
  simp only[ST,Zo6,AW]at h;refine Qz1 l (pre++[o]) _ (by simp[he]) (by simp[O]) (λi j S D=> ?_) h;by_cases I:i<m.length
  ·rw[Qvw 0 m _ i I]at D;exact N i j I D
  ·have T:i=m.length:=by simp at S;omega
   subst T;rw[Qs1]at D;have L:ops[m.length]? =some o:=by rw[he,O];simp
   rcases Qi7 _ _ D with G|⟨e,M,hb,G⟩
   ·simp at G
   ·rcases G with G|G
    ·rw[<-G];exact .one L M hb
    ·by_cases U:e.on<m.length
     ·exact .more L M hb (N _ _ U G)
     ·rw[Qkt 0 m _ (by omega)]at G;simp at G
end
open Go.RowKit
section
variable {P:Program} {C:Cfg} {w:World} {R:Type} {Z:Base}
theorem Zxs (N:Ai P C) {ops:List Oper} {o:Oper} {s O:St} {p:Option Prim} (h:B8 (P:=P) (C:=C) ops o s=some (p,O)) (hs:Prim.simple p=true) (K:Option Prim->St->Option R):
  E0 P C false ops o s K=K p O:=by
 have L:∀s1:St,s1=s->BR ops o s.tmps=some true->(opK P C (AG s1.tmps) o.dst o.op λp=>A0 C o.dst (p.dr false) s1 λv O=>put O o.dst v (K (some (p.dr false))))=K p O:=by
  rintro s1 rfl M;unfold B8 at h;rw[M]at h;dsimp only at h;rw[Qc];cases hp:opK P C (AG s1.tmps) o.dst o.op some with
  |none=>rw[hp]at h;simp at h
  |some q=>
   rw[hp]at h;simp only[af]at h;cases X:EI (C:=C) o.dst (q.dr false) s1 with
   |none=>rw[X]at h;simp at h
   |some z=>
    rw[X]at h;simp at h;obtain⟨rfl,rfl⟩:=h;simp only[af];rw[Q45 N hs,X];simp only[af,LM]
 have I:∀s1:St,s1=s->BR ops o s.tmps=some false->put s1 o.dst (.tup []) (K none)=K p O:=by
  rintro s1 rfl M;unfold B8 at h;rw[M]at h;simp at h;obtain⟨rfl,rfl⟩:=h;rw[LM]
 unfold E0 Pq;cases S:o.guard with
 |none=>exact L s rfl (by simp[BR,S])
 |some jw=>
  obtain⟨j,want⟩:=jw;dsimp only;cases T:ops[j]? with
  |none=>unfold B8 BR at h;rw[S]at h;dsimp only at h;rw[T]at h;simp at h
  |some oj=>
   dsimp only;cases V:oj.dst with
   |none=>unfold B8 BR at h;rw[S]at h;dsimp only at h;rw[T]at h;dsimp only at h;rw[V]at h;simp at h
   |some t=>
    dsimp only;split
    ·rename_i g G;have M:BR ops o s.tmps=some (g==want):=by simp only[BR,S,T,V,G]
     have D:∀b,g=b->(⟨setL s.tmps t (.c (.bool b)),s.aB,s.aC⟩:St)=s:=by
      rintro b rfl;rw[Q48 G (by simp)]
     cases g
     ·simp only[aq];rw[EC];dsimp only;cases want
      ·exact L _ (D false rfl) (by rw[M];rfl)
      ·exact I _ (D false rfl) (by rw[M];rfl)
     ·simp only[ag];rw[EC];dsimp only;cases want
      ·exact I _ (D true rfl) (by rw[M];rfl)
      ·exact L _ (D true rfl) (by rw[M];rfl)
    ·rename_i G;exact I _ rfl (by simp only[BR,S,T,V,G])
    ·rename_i Y U;have M:BR ops o s.tmps=none:=by
      unfold BR;rw[S];dsimp only;rw[T];dsimp only;rw[V];dsimp only;split
      ·rename_i g G;exact(Y g G).elim
      ·rename_i G;exact(U G).elim
      ·rfl
     unfold B8 at h;rw[M]at h;simp at h
theorem Rel.wf {s:St} {tmps:Array Value} (h:Rel Z s tmps w):WFst s:=by
 obtain⟨ρ,h⟩:=h;exact⟨h.wt,h.wb⟩
structure Left (P : Program) (C : Cfg) (ops : Array Oper) (m : List Nat) (listed : Array Bool) (rem : List (Nat × Oper × Option Prim)) : Prop where
 sz:listed.size=ops.size
 op:∀x∈rem,ops[x.1]? =some x.2.1/\(Da ops.toList m x.1||Prim.simple x.2.2)=true/\∀e∈x.2.1.after,Region.binds .any e=true->e.on<x.1
 out:∀i,i<ops.size->(listed.getD i true=false↔∃x∈rem,x.1=i)
 ord:(rem.map (·.1)).Pairwise (· < ·)
 cl:∀j o,ops[j]? =some o->listed.getD j false=true->∀e∈o.after,Region.binds .any e=true->listed.getD e.on false=true
 pr:∀pre x post,rem=pre++x::post->∀y∈pre,Before ops.toList x.1 y.1\/(Da ops.toList m x.1=false/\Da ops.toList m y.1=false/\Oper.apart ops y.2.1 x.2.1=true/\Prim.meet C.ro y.2.2 x.2.2=false/\If y.2.1 y.2.2 x.2.1 x.2.2=true)
theorem Q3g (M:Ai P C) (b0:∀t∈C.eqOk,P.stoodInHeld t=false) {ops:Array Oper} {m:List Nat} {Q:Exit->Act->World->Prop} {sf:St} {d0:List Deferred}
  (hq:∀(a:Act) (w:World),Rel Z sf a.tmps w->a.defers=d0->Q .normal a w):
  ∀(fuel:Nat) (listed:Array Bool) (rem:List (Nat×Oper×Option Prim)) (s:St) (a:Act) (w:World),rem.length=fuel->Left P C ops m listed rem->Rg P C ops.toList m rem s sf->WFst s->Rel Z s a.tmps w->a.defers=d0->
  wpAny P .any ops Q fuel listed a w
 |0,listed,rem,s,a,w,hl,L,O,b1,hR,hd=>by
  have hr:rem=[]:=d6 hl;subst hr;have:s=sf:=O;subst this;refine⟨?_,hq a w hR hd⟩;apply List.eq_nil_iff_forall_not_mem.2;intro i hi;obtain⟨h1,o,X,_⟩:=mem_ready.1 hi;obtain⟨x,hx,_⟩:=(L.out i (bt.1 X).1).1 h1;simp at hx
 |fuel+1,listed,rem,s,a,w,hl,L,O,b1,hR,hd=>by
  refine⟨λb2=> ?_,λi hi=> ?_⟩
  ·exfalso;cases rem with
   |nil=>simp at hl
   |cons x rem=>
    obtain⟨h1,_,X⟩:=L.op x (by simp);have Y:x.1<ops.size:=(bt.1 h1).1;have:x.1∈Region.ready .any ops listed:=by
     refine mem_ready.2 ⟨(L.out x.1 Y).2 ⟨x,by simp,rfl⟩,x.2.1,h1,λe he hb=> ?_⟩;have d2:=X e he hb;cases hle:listed.getD e.on false with
     |true=>rfl
     |false=>
      have a3:e.on<listed.size:=by rw[L.sz];omega
      have:listed.getD e.on true=false:=by
       rw[Array.getD,jh a3]at hle⊢;exact hle
      obtain⟨y,G,d3⟩:=(L.out e.on (by omega)).1 this;have I:=L.ord;simp only[ba,jy]at I;simp only[ax]at G;rcases G with rfl|G
      ·omega
      ·have:=I.1 y.1 (jq G);omega
    rw[b2]at this;simp at this
  ·obtain⟨h1,o,X,h3⟩:=mem_ready.1 hi;have a1:i<ops.size:=(bt.1 X).1;obtain⟨x,hx,c1⟩:=(L.out i a1).1 h1;subst c1;obtain⟨b3,b4,d4⟩:=L.op x hx;have c2:o=x.2.1:=by rw[X]at b3;simpa using b3
   subst c2;obtain⟨pre,post,D⟩:=List.append_of_mem hx;have b5:∀y∈rem,listed.getD y.1 false=false:=by
    intro y G;have Y:y.1<ops.size:=(bt.1 (L.op y G).1).1;have:=(L.out y.1 Y).2 ⟨y,G,rfl⟩;have a3:y.1<listed.size:=by rw[L.sz];exact Y
    rw[Array.getD,jh a3]at this⊢;exact this
   have a4:∀y∈pre,Da ops.toList m x.1=false/\Da ops.toList m y.1=false/\Oper.apart ops y.2.1 x.2.1=true/\Prim.meet C.ro y.2.2 x.2.2=false/\If y.2.1 y.2.2 x.2.1 x.2.2=true:=by
    intro y G;rcases L.pr pre x post D y G with hr|hr
    ·exfalso;have b6:=b5 y (by rw[D];simp[G]);have b7:∀(i j:Nat),Before ops.toList i j->(∀oi,ops[i]? =some oi->∀e∈oi.after,Region.binds .any e=true->listed.getD e.on false=true)->listed.getD j false=true:=by
      intro i j c3;induction c3 with
      |one ho he hb=>intro a5;exact a5 _ (by simpa using ho) _ (by simpa using he) hb
      |more ho he hb _ ih=>
       intro a5;have c4:=a5 _ (by simpa using ho) _ (by simpa using he) hb;exact ih λoe c5 e2 c6 c7=>L.cl _ oe c5 c4 e2 c6 c7
     have:=b7 x.1 y.1 hr λoi a6 e he hb=>by
      rw[X]at a6;simp at a6;subst a6;exact h3 e he hb
     rw[this]at b6;simp at b6
    ·exact hr
   rw[D]at O;obtain⟨s1,T,a7⟩:=Qr8 M pre s b1 O a4;have hex:∃b,E0 P C b ops.toList x.2.1 s (λpo s'=>(some (po,s'):Option (Option Prim×St)))=some (x.2.2,s1):=by
    unfold H4 at T;cases hw:Da ops.toList m x.1
    ·rw[aa (by rw[hw];simp)]at T;rw[hw]at b4;exact⟨false,Zxs M T (by simpa using b4) _⟩
    ·rw[ab hw]at T;exact⟨true,T⟩
   obtain⟨b,hex⟩:=hex;have a0 := Xb (Q := Q) (next := wpAny P .any ops Q fuel (listed.setIfInBounds x.1 true)) M b0 hR hex (λpo s' a' w' hK b8 c8 => by
    simp at hK;obtain⟨rfl,rfl⟩:=hK;refine Q3g M b0 hq fuel _ (pre++post) _ a' w' ?_ ?_ a7 b8.wf b8 (c8.trans hd)
    ·rw[D]at hl;simp at hl⊢;omega
    ·have a2:∀y,y∈pre++post->y∈rem:=by
      intro y G;rw[D];simp at G⊢;rcases G with G|G<;>simp[G]
     have c9:∀y∈pre++post,y.1≠x.1:=by
      intro y G;have I:=L.ord;rw[D]at I;simp only[bv,ba,List.pairwise_append,jy]at I;obtain⟨o1,⟨o2,o3⟩,o4⟩:=I;simp at G;rcases G with G|G
      ·have:=o4 y.1 (jq G) x.1 (by simp);omega
      ·have:=o2 y.1 (jq G);omega
     have hg:∀(j:Nat) (d:Bool),(listed.setIfInBounds x.1 true).getD j d=if j=x.1 then true else listed.getD j d:=by
      intro j d;by_cases U:j=x.1
      ·subst U;have:x.1<listed.size:=by rw[L.sz];exact a1
       simp[Array.getD,this]
      ·rw[aa U];exact getD_set_ne d (λe=>U e.symm)
     refine⟨by simpa using L.sz,λy G=>L.op y (a2 y G),λj U=> ?_,?_,?_,?_⟩
     ·rw[hg];constructor
      ·intro hh;split at hh
       ·simp at hh
       ·rename_i a8;obtain⟨y,G,b9⟩:=(L.out j U).1 hh;refine⟨y,?_,b9⟩;rw[D]at G;simp at G⊢;rcases G with G|rfl|G
        ·exact .inl G
        ·exact absurd b9.symm a8
        ·exact .inr G
      ·rintro⟨y,G,rfl⟩;rw[aa (c9 y G)];exact(L.out y.1 U).2 ⟨y,a2 y G,rfl⟩
     ·have I:=L.ord;rw[D]at I;simp only[bv,ba,List.pairwise_append,jy]at I⊢;obtain⟨o1,⟨o2,o3⟩,o4⟩:=I;exact⟨o1,o3,λu hu v hv=>o4 u hu v (by simp[hv])⟩
     ·intro j oj U a9 e he hb;rw[hg]at a9⊢;split
      ·rfl
      ·split at a9
       ·rename_i a8;subst a8;rw[X]at U;simp at U;subst U;exact h3 e he hb
       ·exact L.cl j oj U a9 e he hb
     ·intro c0 z V d1 y G
      have:∃S N,rem=S++z::N/\y∈S:=by
       rcases List.append_eq_append_iff.1 d1 with⟨as,e1,e2⟩|⟨bs,e1,e2⟩
       ·
        refine⟨pre++x::as,V,by rw[D,e2];simp,?_⟩;rw[e1]at G;simp at G⊢;rcases G with G|G
        ·exact .inl G
        ·exact .inr (.inr G)
       ·cases bs with
        |nil=>
         simp at e1 e2;refine⟨pre++[x],V,?_,?_⟩
         ·rw[D,<-e2];simp
         ·rw[e1];simp[G]
        |cons b bs=>
         simp at e2;obtain⟨rfl,e2⟩:=e2;exact⟨c0,bs++x::post,by rw[D,e1];simp,G⟩
      obtain⟨S,N,q1,q2⟩:=this;exact L.pr S z N q1 y q2)
   unfold wpOp;rw[X];dsimp only;split
   ·rename_i hw;rw[ab hw]at a0;exact .inl a0
   ·rename_i hw;rw[aa hw]at a0;exact a0
end
open Go.RowKit
section
variable {P:Program} {C:Cfg} {w:World} {R:Type} {Z:Base}
theorem Z5z {c a:Bool} (h:(bif c then a else false)=true):c=true/\a=true:=by cases c<;>simp at h;exact⟨rfl,h⟩
theorem Q6s {ops:Array Oper} {m:List Nat}:∀(ps D:List (Nat×Oper×Option Prim)) (i:Nat),ps.map (·.1)=List.range' i ps.length->JN C ops m i D (ps.map (·.2))=true->
  ∀pre x post,ps=pre++x::post->(Da ops.toList m x.1||Prim.simple x.2.2)=true/\(∀e∈x.2.1.after,Region.binds .any e=true->e.on<x.1)/\
   ∀y∈D++pre,LB m x.1 y.1=true\/(Da ops.toList m x.1=false/\Da ops.toList m y.1=false/\Oper.apart ops y.2.1 x.2.1=true/\Prim.meet C.ro y.2.2 x.2.2=false/\If y.2.1 y.2.2 x.2.1 x.2.2=true)
 |[],D,i,_,_,pre,x,post,h=>by simp at h
 |(j,o,p)::ps,D,i,G,I,pre,x,post,h=>by
  simp only[ba,bm,List.range'_succ,d7]at G;obtain⟨rfl,G⟩:=G;simp only[ba,JN]at I;generalize S:((Da ops.toList m j||Prim.simple p)&&o.after.toList.all (λe=> !(Region.binds .any e)||Nat.blt e.on j)&&Ak (λy:Nat×Oper×Option Prim=>LB m j y.1||(!(Da ops.toList m j)&& !(Da ops.toList m y.1)&&(Oper.apart ops y.2.1 o&& !(Prim.meet C.ro y.2.2 p)&&If y.2.1 y.2.2 o p))) D)=c at I;cases c
  ·simp at I
  ·simp only[ag]at I;simp only[ai]at S;obtain⟨⟨T,U⟩,V⟩:=S;cases pre with
   |nil=>
    simp at h;obtain⟨rfl,rfl⟩:=h;refine⟨T,λe he hb=> ?_,λy L=> ?_⟩
    ·have:=List.all_eq_true.1 U e (by simpa using he);rw[hb]at this;simpa using this
    ·simp at L;have:=Au.1 V y L;rw[jt]at this;simp only[ai,j6]at this;rcases this with h|⟨⟨X,Y⟩,⟨M,N⟩,O⟩
     ·exact .inl h
     ·exact .inr ⟨X,Y,M,N,O⟩
   |cons q pre=>
    simp at h;obtain⟨rfl,rfl⟩:=h;obtain⟨M,N,O⟩:=Q6s (pre++x::post) (D++[(j,o,p)]) (j+1) G I pre x post rfl;refine⟨M,N,λy L=>O y ?_⟩;simpa using L
theorem Qrs {ops:Array Oper} {m:List Nat}:∀(l:List (Oper×Option Prim)) (D:List (Nat×Oper×Option Prim)) (i:Nat),JN C ops m i D l=true->∀(j:Nat) (q:Oper×Option Prim),l[j]? =some q->(Da ops.toList m (i+j)||Prim.simple q.2)=true
 |[],_,_,_,j,q,G=>by simp at G
 |(o,p)::l,D,i,h,j,q,G=>by
  simp only[JN]at h;obtain⟨I,h⟩:=Z5z h;simp only[ai]at I;cases j with
  |zero=>simp at G;subst G;exact I.1.1
  |succ j=>
   rw[show i+(j+1)=i+1+j from by omega];exact Qrs l _ _ h j q (by simpa using G)
theorem Rel.drew {s:St} {tmps:Array Value} (h:Rel Z s tmps w):Rel Z s tmps {w with drawn:=w.drawn+1}:=by
 obtain⟨ρ,h⟩:=h;have D:∀(a:AC) (x:Value),CC ρ w a x->CC ρ {w with drawn:=w.drawn+1} a x:=λa x G=>CC.mono (w:=w) (w':={w with drawn:=w.drawn+1}) (λ_ h=>h) (λ_ _=>rfl) a x (AC.agree_refl rfl rfl rfl a) G;refine⟨ρ,h.tl,λi v N=>TVR.mono D v _ (h.tv i v N),h.wt,h.wb,?_,h.bi,?_,h.ri,h.br,h.ib,h.fr.drew,h.fs,h.i0,h.i1,h.k0⟩
 ·intro k b O;obtain⟨arr,I,L,M⟩:=h.bx k b O;exact⟨arr,I,L.mono λa _ x G=>D a x G,M⟩
 ·intro id r S;obtain⟨I,L,T,xs,M,U⟩:=h.ro id r S;exact⟨I,L,T,xs,Mh M (λ_ _=>rfl),RowC.mono (w:=w) (λ_ h=>h) (λ_ _=>rfl) U⟩
theorem Zh3 (D:Ai P C) (O:∀t∈C.eqOk,P.stoodInHeld t=false) (S:P.follows .mixedOrders=true) {id:Nat} {ops:Array Oper} {draw:Bool} {s:St} {a:Act} (hR:Rel Z s a.tmps w) {K:St->Option R} {r:R}
  (h:Y0 P C ops draw s K=some r) {Q:Exit->Act->World->Prop} (hq:∀(s':St) (T:Act) (w':World),K s'=some r->Rel Z s' T.tmps w'->T.defers=a.defers->Q .normal T w'):
  (Code.region id ops draw).wp P Q a w:=by
 cases draw
 ·exact wp_region_list (Qkq D O _ s a w hR h hq)
 ·simp only[Y0,ag]at h;refine wp_region_any S ?_;obtain⟨m,h,hm⟩:=Qz1 (ops:=ops.toList) ops.toList [] [] rfl rfl (λi j U=>by simp at U) h;rcases Zz D ops.toList 0 s _ r h with⟨ps,sf,V,q2,q3,q4⟩|⟨acc,sf,V,j,q,q2,q3⟩
  ·cases X:JN C ops m 0 [] (ps.map (·.2))<;>rw[X]at q4
   ·simp at q4
   ·simp only[ag]at q4;have hlen:ps.length=ops.size:=by have:=il List.length V;simpa using this
    have G:ps.map (·.1)=List.range' 0 ps.length:=by rw[q2];simp[hlen]
    have Y:=Q6s ps [] 0 G X;have L:∀(i:Nat) (x:Nat×Oper×Option Prim),ps[i]? =some x->x.1=i/\ops[i]? =some x.2.1:=by
     intro i x M;have N:(ps.map (·.1))[i]? =some x.1:=by simp[M]
     have h2:(ps.map (·.2.1))[i]? =some x.2.1:=by simp[M]
     rw[G,List.getElem?_range']at N;rw[V]at h2
     ·simp at N;exact⟨by omega,by simpa using h2⟩
     ·exact(fg.1 M).1
    refine Q3g D O (m:=m) (sf:=sf) (d0:=a.defers) (λT w' a0 a1=>hq sf T w' q4 a0 a1) ops.size _ ps s a _ hlen ?_ q3 hR.wf hR.drew rfl;refine⟨by simp,λx M=> ?_,λi U=> ?_,?_,?_,?_⟩
    ·obtain⟨pre,post,hs⟩:=List.append_of_mem M;obtain⟨c1,c2,_⟩:=Y pre x post hs;obtain⟨i,U⟩:=List.getElem?_of_mem M;obtain⟨p1,p2⟩:=L i x U;exact⟨by rw[p1];exact p2,c1,c2⟩
    ·constructor
     ·intro _;have I:i<ps.length:=by omega
      exact⟨ps[i],cg I,(L i ps[i] (al I)).1⟩
     ·intro _;simp[Array.getD,U]
    ·rw[G];exact List.pairwise_lt_range'
    ·intro j o hj hl;have I:j<ops.size:=(bt.1 hj).1;simp[Array.getD,I]at hl
    ·intro pre x post hs y hy;rcases(Y pre x post hs).2.2 y (by simpa using hy)with N|N
     ·exact .inl (hm _ _ N)
     ·exact .inr N
  ·cases X:JN C ops m 0 [] acc<;>rw[X]at V
   ·simp at V
   ·have:=Qrs acc [] 0 X j q q2;rw[q3]at this;simp at this
def KN:Ex->Exit
 | .normal=> .normal
 | .exit id=> .exit id
 | .ret=> .ret
def Kb (Z:Base) (K:Ex->St->Option R) (r:R) (d:List Deferred):Exit->Act->World->Prop:=
 λe a w=>∃D s,KN D=e/\K D s=some r/\Rel Z s a.tmps w/\a.defers=d
theorem Zbg {step:St->(Ex->St->Option R)->Option R} {body:Code} {K:Ex->St->Option R} {r:R} {d:List Deferred}
  (D:∀(s:St) (a:Act) (w:World) (N:Ex->St->Option R),Rel Z s a.tmps w->a.defers=d->step s N=some r->body.wp P (Kb Z N r d) a w):
  ∀(n:Nat) (s:St) (a:Act) (w:World),Rel Z s a.tmps w->a.defers=d->Pz P C step n s K=some r->Code.rounds P body (Kb Z K r d) n a w
 |0,s,a,w,O,S,h=>by simp[Pz]at h
 |n+1,s,a,w,O,S,h=>by
  rw[Pz]at h;rw[rounds_succ];refine wp_mono (D s a w _ O S h) ?_;rintro e T w' ⟨U,s2,rfl,L,G,I⟩;cases U with
  |normal=>
   obtain⟨V,X,M⟩:=LZ G L;exact Zbg D n V T w' M I X
  |exit id=>exact⟨.exit id,s2,rfl,L,G,I⟩
  |ret=>exact⟨.ret,s2,rfl,L,G,I⟩
def InZ (Z:Base):Prop:=∀k b,Z.K0 k=some b->Dd k=true
def Ku (P:Program) (c:Code) (sk:Sk) (g:IC):Prop:=
 ∀(Z:Base) (_:InZ Z) (a:Act) (w:World) (vars:List AC) (R:Type) (K:Ex->St->Option R) (r:R),Rel Z (AA sk vars) a.tmps w->g R vars K=some r->c.wp P (Kb Z K r a.defers) a w
structure SubOK (P : Program) (C : Cfg) (c : Code) (blk : Nat) : Prop where
 l:∀p∈AQ c blk,∀sk g,C.loops p.1=some (sk,g)->Ku P (.loop p.2) sk g
 b:∀p∈Cj c,∀sk g,C.blocks p.1=some (sk,g)->Ku P (.block p.1 p.2) sk g
 c:∀p∈BA c blk,∀sk g,C.conds p.1=some (sk,g)->Ku P (.cond (.tmp p.1) p.2.2.1 p.2.2.2) sk g
theorem IF:∀(c:Code) (b b':Nat),AQ c b=AQ c b'
 | .seq x y,b,b'=>by simp only[AQ,IF x b b',IF y b b']
 | .cond _ x y,b,b'=>by simp only[AQ,IF x b b',IF y b b']
 | .block _ x,b,b'=>by simp only[AQ,IF x b b']
 | .loop x,b,b'=>by simp only[AQ,IF x b b']
 | .skip,_,_=>rfl
 | .region _ _ _,_,_=>rfl
 | .exit _,_,_=>rfl
 | .ret,_,_=>rfl
 | .rangeFunc _ _ _ _,_,_=>rfl
 | .scope x,b,b'=>by simp only[AQ,IF x b b']
 | .label _,_,_=>rfl
 | .goto _,_,_=>rfl
 | .refuse _,_,_=>rfl
theorem Jc:∀(c:Code) (b b':Nat),BA c b=BA c b'
 | .seq x y,b,b'=>by simp only[BA,Jc x b b',Jc y b b']
 | .cond c x y,b,b'=>by cases c<;>simp only[BA,Jc x b b',Jc y b b']
 | .block _ x,b,b'=>by simp only[BA,Jc x b b']
 | .loop x,b,b'=>by simp only[BA,Jc x b b']
 | .skip,_,_=>rfl
 | .region _ _ _,_,_=>rfl
 | .exit _,_,_=>rfl
 | .ret,_,_=>rfl
 | .rangeFunc _ _ _ _,_,_=>rfl
 | .scope x,b,b'=>by simp only[BA,Jc x b b']
 | .label _,_,_=>rfl
 | .goto _,_,_=>rfl
 | .refuse _,_,_=>rfl
theorem SubOK.any {c:Code} (b:Nat) {b':Nat} (h:SubOK P C c b):SubOK P C c b':=
 ⟨λp D=>h.l p (by rw[IF c b b'];exact D),h.b,λp D=>h.c p (by rw[Jc c b b'];exact D)⟩
theorem Qda {c:Code} {told:Option (Sk×IC)} {s:St} {a:Act} {K:Ex->St->Option R} {r:R} {d:List Deferred} {run:Option R} (M:InZ Z)
  (N:∀sk g,told=some (sk,g)->Ku P c sk g) (G:Rel Z s a.tmps w) (O:a.defers=d) (h:KD told s K run=some r) (D:run=some r->c.wp P (Kb Z K r d) a w):c.wp P (Kb Z K r d) a w:=by
 unfold KD at h;split at h
 ·exact D h
 ·rename_i sk g;obtain⟨I,L⟩:=Bo h;split at L
  ·rename_i vars S;obtain⟨ρ,G⟩:=G;obtain⟨tm,aB,aC⟩:=s;subst O;exact N sk g rfl Z M a w vars R K r ⟨ρ,G.rebuild M I S⟩ L
  ·simp at L
theorem Q8o {ρ:Env} {d:Nat} {a:AC} {x:Value} (h:CC ρ w a x):CC ρ w (a.killP d) x:=by
 cases a with
 |ptr k o=>simp only[AC.killP];cases Nat.beq k d<;>first|exact h|exact h.one
 |bsl k o=>simp only[AC.killP];cases Nat.beq k d<;>first|exact h|exact h.one
 |clo f fs cs=>simp only[AC.killP];cases(Ak (Kk d) fs&&Ak (Kk d) cs)<;>first|exact h|exact h.one
 |_=>exact h
theorem UB {ρ:Env} {f:AC->AC} (hf:∀(a:AC) (x:Value),CC ρ w a x->CC ρ w (f a) x):∀{l:List AC} {xs:List Value},CL (CC ρ w) l xs->CL (CC ρ w) (l.map f) xs
 |[],[],_=>trivial
 |_::_,_::_,h=>⟨hf _ _ h.1,UB hf h.2⟩
 |[],_::_,h=>h.elim
 |_::_,[],h=>h.elim
theorem Yak {ρ:Env} {f:AC->AC} (hf:∀(a:AC) (x:Value),CC ρ w a x->CC ρ w (f a) x) {v:TV} {x:Value} (h:TVR ρ w v x):TVR ρ w (v.mapC f) x:=by
 cases v with
 |vD=>trivial
 |tup ps=>
  obtain⟨G,rfl,D⟩:=h;refine⟨G,rfl,?_⟩;generalize G.toList=l at D;induction ps generalizing l with
  |nil=>cases l<;>first|exact D|exact D.elim
  |cons p ps M=>
   cases l with
   |nil=>exact D.elim
   |cons y l=>
    obtain⟨g,cs⟩:=p;refine⟨?_,M l D.2⟩;have:=D.1;cases g
    ·obtain⟨a,I,L⟩:=this;subst I;exact⟨_,rfl,hf _ _ L⟩
    ·obtain⟨N,I,O⟩:=this;exact⟨N,I,UB hf O⟩
 |v g cs=>
  cases g
  ·obtain⟨a,rfl,L⟩:=h;exact⟨_,rfl,hf _ _ L⟩
  ·obtain⟨G,rfl,D⟩:=h;exact⟨G,rfl,UB hf D⟩
theorem RelE.forget {tm:List TV} {aB:List (Nat×Box)} {aC:List (Nat×Row)} {ρ:Env} {tmps:Array Value} (h:RelE Z tm aB aC ρ tmps w) {d:Nat} (hd:∀b,Z.K0 d≠some b):
  RelE Z (tm.map (TV.mapC (AC.killP d))) ((del d aB).map λp=>(p.1,(⟨p.2.ty,p.2.cells.map (AC.killP d)⟩:Box))) aC ρ tmps w:=by
 have S:∀k,Ab ((del d aB).map λp=>(p.1,(⟨p.2.ty,p.2.cells.map (AC.killP d)⟩:Box))) k=(Ab (del d aB) k).map λb=>⟨b.ty,b.cells.map (AC.killP d)⟩:=λk=>E_ (λb:Box=>(⟨b.ty,b.cells.map (AC.killP d)⟩:Box)) _ k;have G:∀(k:Nat) (b:Box),Ab ((del d aB).map λp=>(p.1,(⟨p.2.ty,p.2.cells.map (AC.killP d)⟩:Box))) k=some b->k≠d/\∃b',Ab aB k=some b'/\b=⟨b'.ty,b'.cells.map (AC.killP d)⟩:=by
  intro k b D;rw[S]at D;simp only[bh]at D;obtain⟨b',V,rfl⟩:=D;obtain⟨X,Y⟩:=LG V;exact⟨X,b',Y,rfl⟩
 have L:∀(k:Nat) (b:Box),k≠d->Ab aB k=some b->∃b',Ab ((del d aB).map λp=>(p.1,(⟨p.2.ty,p.2.cells.map (AC.killP d)⟩:Box))) k=some b':=λk b a0 D=>⟨_,by rw[S,J8 _ _ _ a0,D];rfl⟩;have T:∀a,Kk d a=true->AC.wfP aB a->AC.wfP ((del d aB).map λp=>(p.1,(⟨p.2.ty,p.2.cells.map (AC.killP d)⟩:Box))) a:=by
  intro a hn I;cases a<;>try exact trivial
  rename_i k o;obtain⟨b,hb⟩:=I;simp only[Kk,j6]at hn;exact L k b (GK hn) hb
 have N:∀a,AC.wf aB aC a->AC.wf ((del d aB).map λp=>(p.1,(⟨p.2.ty,p.2.cells.map (AC.killP d)⟩:Box))) aC (a.killP d):=by
  intro a I;cases a with
  |ptr k o=>
   simp only[AC.killP];cases D:Nat.beq k d
   ·obtain⟨b,hb⟩:=I;exact L k b (GK D) hb
   ·exact trivial
  |bsl k o=>
   simp only[AC.killP];cases D:Nat.beq k d
   ·obtain⟨b,hb⟩:=I;exact L k b (GK D) hb
   ·exact trivial
  |clo f fs cs=>
   simp only[AC.killP];cases M:(Ak (Kk d) fs&&Ak (Kk d) cs)
   ·exact trivial
   ·simp only[ai]at M;exact⟨λa h'=>T a (Au.1 M.1 a h') (I.1 a h'),λa h'=>T a (Au.1 M.2 a h') (I.2 a h')⟩
  |_=>exact I
 refine⟨by simpa using h.tl,?_,?_,?_,?_,?_,h.ro,h.ri,?_,?_,h.fr,h.fs,h.i0,h.i1,?_⟩
 ·intro i v hi;simp only[d8,bh]at hi;obtain⟨u,hu,rfl⟩:=hi;exact Yak (λ_ _=>Q8o) (h.tv i u hu)
 ·intro v hv;simp only[av]at hv;obtain⟨u,hu,rfl⟩:=hv;have:=h.wt u hu;cases u with
  |vD=>trivial
  |v g cs=>
   intro a I;simp only[av]at I;obtain⟨c,M,rfl⟩:=I;exact N c (this c M)
  |tup ps=>
   intro p hp a I;simp only[av]at hp;obtain⟨q,hq,rfl⟩:=hp;simp only[av]at I;obtain⟨c,M,rfl⟩:=I;exact N c (this q hq c M)
 ·intro k b D a I;obtain⟨_,b',O,rfl⟩:=G k b D;simp only[av]at I;obtain⟨c,M,rfl⟩:=I;exact N c (h.wb k b' O c M)
 ·intro k b D;obtain⟨_,b',O,rfl⟩:=G k b D;obtain⟨arr,V,X,Y⟩:=h.bx k b' O;exact⟨arr,V,UB (λ_ _=>Q8o) X,Y⟩
 ·intro k k' b b' D a1;obtain⟨_,_,U,_⟩:=G k b D;obtain⟨_,_,p2,_⟩:=G k' b' a1;exact h.bi k k' _ _ U p2
 ·intro k b j q D hq;obtain⟨_,_,U,_⟩:=G k b D;exact h.br k _ j q U hq
 ·intro b hb;obtain⟨q1,q2,q3⟩:=h.ib b hb;exact⟨q1,λk bo D=>by obtain⟨_,_,p,_⟩:=G k bo D;exact q2 k _ p,q3⟩
 ·intro k b D;obtain⟨U,bo,p2⟩:=h.k0 k b D;exact⟨U,L k bo (by rintro rfl;exact hd b D) p2⟩
theorem SR (G:InZ Z) {tmps:Array Value} {K:St->Option R} {r:R}:∀(l:List Nat) (s:St),Rel Z s tmps w->Rs l s K=some r->∃L,K L=some r/\Rel Z L tmps w
 |[],s,D,h=>⟨s,h,D⟩
 |d::l,⟨tm,aB,aC⟩,D,h=>by
  simp only[Rs]at h;split at h
  ·exact SR G l _ D h
  ·cases I:Dd d<;>rw[I]at h
   ·simp only[aq,AW]at h;obtain⟨ρ,D⟩:=D;exact SR G l _ ⟨ρ,D.forget (d:=d) λb hb=>by rw[G d b hb]at I;cases I⟩ h
   ·simp at h
theorem Fs (D:Ai P C) (U:∀t∈C.eqOk,P.stoodInHeld t=false) (N:P.follows .mixedOrders=true) (hZ:InZ Z) {r:R} {d:List Deferred}:
  ∀(c:Code) (L blk:Nat) (s:St) (a:Act) (w:World) (K:Ex->St->Option R),SubOK P C c blk->Rel Z s a.tmps w->a.defers=d->Bp P C L c blk s K=some r->c.wp P (Kb Z K r d) a w
 | .skip,L,blk,s,a,w,K,I,O,S,h=>wp_skip ⟨.normal,s,rfl,h,O,S⟩
 | .region id ops draw,L,blk,s,a,w,K,I,O,S,h=>by
  rw[Bp]at h;obtain⟨s0,h,O⟩:=SR hZ _ s O h;exact Zh3 D U N O h λX a' w' V M T=>⟨.normal,X,rfl,V,M,T.trans S⟩
 | .seq x y,L,blk,s,a,w,K,I,O,S,h=>by
  rw[Bp]at h;refine wp_seq (wp_mono (Fs D U N hZ x L blk s a w _ ⟨λp G=>I.l p (by simp[AQ,G]),λp G=>I.b p (by simp[Cj,G]),λp G=>I.c p (by simp[BA,G])⟩ O S h) ?_);rintro e a' w' ⟨ae,X,rfl,V,M,T⟩;cases ae with
  |normal=>exact Fs D U N hZ y L blk X a' w' K ⟨λp G=>I.l p (by simp[AQ,G]),λp G=>I.b p (by simp[Cj,G]),λp G=>I.c p (by simp[BA,G])⟩ M T V
  |exit id=>exact⟨.exit id,X,rfl,V,M,T⟩
  |ret=>exact⟨.ret,X,rfl,V,M,T⟩
 | .cond c x y,L,blk,s,a,w,K,I,O,S,h=>by
  have hx:SubOK P C x blk:=⟨λp G=>I.l p (by simp[AQ,G]),λp G=>I.b p (by simp[Cj,G]),λp G=>I.c p (by cases c<;>simp[BA,G])⟩;have hy:SubOK P C y blk:=⟨λp G=>I.l p (by simp[AQ,G]),λp G=>I.b p (by simp[Cj,G]),λp G=>I.c p (by cases c<;>simp[BA,G])⟩;rw[Bp]at h;refine Qda (c:= .cond c x y) hZ ?_ O S h λY=> ?_
  ·intro sk g ht;unfold TW at ht;split at ht
   ·rename_i t;exact I.c (t,0,x,y) (by simp[BA]) sk g ht
   ·simp at ht
  ·split at Y
   ·rename_i g hg;have hc:a.eval c= .bool g:=by
     obtain⟨ρ,a0⟩:=O;have:=TU a0 c;rw[hg]at this;exact this.bool
    refine wp_cond hc ?_;split at Y
    ·rename_i t;have a1:∀b,g=b->Rel Z ⟨setL s.tmps t (.c (.bool b)),s.aB,s.aC⟩ a.tmps w:=by
      rintro b rfl;obtain⟨ρ,a0⟩:=O;exact⟨ρ,a0.learn t (by have e:a.tmps.getD t undef= .bool g:=hc;rw[e];exact TVR.mkBool _) (Fk _)⟩
     cases g
     ·simp only[aq]at Y;rw[EC]at Y;exact Fs D U N hZ y L blk _ a w K hy (a1 false rfl) S Y
     ·simp only[ag]at Y;rw[EC]at Y;exact Fs D U N hZ x L blk _ a w K hx (a1 true rfl) S Y
    ·cases g
     ·exact Fs D U N hZ y L blk s a w K hy O S Y
     ·exact Fs D U N hZ x L blk s a w K hx O S Y
   ·simp at Y
 | .block id body,L,blk,s,a,w,K,I,O,S,h=>by
  have hb:SubOK P C body id:=SubOK.any blk ⟨λp G=>I.l p (by simp[AQ,G]),λp G=>I.b p (by simp[Cj,G]),λp G=>I.c p (by simp[BA,G])⟩;rw[Bp]at h;refine Qda (c:= .block id body) hZ (I.b (id,body) (by simp[Cj])) O S h λY=> ?_;refine wp_block (wp_mono (Fs D U N hZ body L id s a w _ hb O S Y) ?_);rintro e a' w' ⟨ae,X,rfl,V,M,T⟩;cases ae with
  |normal=>exact⟨.normal,X,rfl,V,M,T⟩
  |exit i=>
   simp only[KN,Exit.inBlock];dsimp only at V;cases hb:Nat.beq i id<;>rw[hb]at V
   ·have:i≠id:=λe=>by rw[e]at hb;simp at hb
    rw[aa this];exact⟨.exit i,X,rfl,V,M,T⟩
   ·rw[ab (ac hb)];exact⟨.normal,X,rfl,V,M,T⟩
  |ret=>exact⟨.ret,X,rfl,V,M,T⟩
 | .loop body,L,blk,s,a,w,K,I,O,S,h=>by
  rw[Bp]at h;obtain⟨X,h',M⟩:=PO _ s a.tmps O _ r h;obtain⟨s1,h1,a2⟩:=LZ M h';have hb:SubOK P C body blk:=⟨λp G=>I.l p (by simp[AQ,G]),λp G=>I.b p (by simp[Cj,G]),λp G=>I.c p (by simp[BA,G])⟩;refine Qda (c:= .loop body) hZ (I.l (Rj body,body) (by simp[AQ])) a2 S h1 λY=> ?_;exact wp_loop_rounds L (Zbg (λs a w K' O S h=>Fs D U N hZ body L blk s a w K' hb O S h) L s1 a w a2 S Y)
 | .exit id,L,blk,s,a,w,K,I,O,S,h=>wp_exit ⟨.exit id,s,rfl,h,O,S⟩
 | .ret,L,blk,s,a,w,K,I,O,S,h=>wp_ret ⟨.ret,s,rfl,h,O,S⟩
 | .rangeFunc f ps a3 body,L,blk,s,a,w,K,I,O,S,h=>by simp[Bp]at h
 | .scope b,L,blk,s,a,w,K,I,O,S,h=>by
  rw[Bp]at h;refine wp_scope_straight (wp_mono (Fs D U N hZ b L blk s a w K ⟨λp G=>I.l p (by simp[AQ,G]),λp G=>I.b p (by simp[Cj,G]),λp G=>I.c p (by simp[BA,G])⟩ O S h) ?_);rintro e a' w' ⟨ae,X,rfl,V,M,T⟩;cases ae with
  |normal=>exact⟨.normal,X,rfl,V,M,T⟩
  |exit i=>exact⟨.exit i,X,rfl,V,M,T⟩
  |ret=>exact⟨.ret,X,rfl,V,M,T⟩
 | .label l,L,blk,s,a,w,K,I,O,S,h=>by
  rw[Bp]at h;exact wp_label ⟨.normal,s,rfl,h,O,S⟩
 | .goto l,L,blk,s,a,w,K,I,O,S,h=>by simp[Bp]at h
 | .refuse a4,L,blk,s,a,w,K,I,O,S,h=>by simp[Bp]at h
theorem Z7e {e D:Ex} (h:UT e D=true):e=D:=by
 cases e<;>cases D<;>simp only[UT]at h<;>first|rfl|(simp at h;done)|(rw[ac h])
theorem Qkd {s:St} {I:Ex} {tmps:Array Value} (M:InZ Z) (G:Rel Z s tmps w):∀{D:List (Ex×Sk)} {i n:Nat} {o:List AC},J9 D i I s=some (n,o)->
  i<=n/\∃sk,(∀(R:Type) (K:Ex->St->Option R),Ph o K D i n=K I (AA sk o))/\Rel Z (AA sk o) tmps w
 |[],i,n,o,h=>by simp[J9]at h
 |(e,sk)::l,i,n,o,h=>by
  simp only[J9]at h;cases hb:(UT e I&&sk.okB)<;>rw[hb]at h
  ·simp only[aq]at h;obtain⟨T,L,N,O⟩:=Qkd M G h;refine⟨by omega,L,λR K=> ?_,O⟩;simp only[Ph];rw[JZ (by omega)];exact N R K
  ·simp only[ag]at h;simp only[ai]at hb;split at h
   ·rename_i vars S;simp at h;obtain⟨rfl,rfl⟩:=h;refine⟨co _,sk,λR K=> ?_,?_⟩
    ·simp only[Ph,jj,ag];rw[Z7e hb.1]
    ·obtain⟨ρ,G⟩:=G;obtain⟨tm,aB,aC⟩:=s;exact⟨ρ,G.rebuild M hb.2 S⟩
   ·simp at h
theorem Zvu (I:Ai P C) (a0:∀t∈C.eqOk,P.stoodInHeld t=false) (S:P.follows .mixedOrders=true) {L blk:Nat} {body:Code} {sk:Sk} {D:List (Ex×Sk)} {m:List AC->Option (Nat×List AC)}
  (a1:sk.okB=true) (T:SubOK P C body blk) (hm:∀vars o,m vars=some o->∃n,Cc (AL P C L blk body sk D) n vars=some o):Ku P (.loop body) sk (gOf D m):=by
 intro Z hZ a w vars R K r hR h;simp only[gOf,bf]at h;obtain⟨⟨t,o⟩,h1,h2⟩:=h;obtain⟨n,hn⟩:=hm vars _ h1;have key:∀(n:Nat) (vars:List AC) (N:Act) (w':World),Rel Z (AA sk vars) N.tmps w'->N.defers=a.defers->Cc (AL P C L blk body sk D) n vars=some (t,o)->Code.rounds P body (Kb Z K r a.defers) n N w':=by
  intro n;induction n with
  |zero=>intro vars N w' _ _ h;simp[Cc]at h
  |succ n ih=>
   intro vars N w' a3 a4 h;simp only[Cc,bf]at h;obtain⟨⟨t',o'⟩,q1,O⟩:=h;rw[rounds_succ];refine wp_mono (Fs I a0 S hZ body L blk _ N w' _ T a3 a4 q1) ?_;rintro e a2 w2 ⟨ae,s',rfl,hK,U,V⟩;have G:∀X:Ex,J9 D 1 X s'=some (t',o')->Kb Z K r a.defers (KN X) a2 w2:=by
    intro X hx;obtain⟨p1,a5,p2,p3⟩:=Qkd hZ U hx;have ht:t'≠0:=by omega
    dsimp only at O;rw[aa ht]at O;simp at O;obtain⟨rfl,rfl⟩:=O;rw[p2 R K]at h2;exact⟨X,_,rfl,h2,p3,V⟩
   cases ae with
   |normal=>
    obtain⟨s3,Y,M⟩:=LZ U hK;split at Y
    ·rename_i vars' hv;simp at Y;obtain⟨rfl,rfl⟩:=Y;simp only[dq]at O;obtain⟨ρ,M⟩:=M;obtain⟨tm,aB,aC⟩:=s3;exact ih _ a2 w2 ⟨ρ,M.rebuild hZ a1 hv⟩ V O
    ·simp at Y
   |exit i=>exact G _ hK
   |ret=>exact G _ hK
 exact wp_loop_rounds n (key n vars a w hR rfl hn)
end
open Go.RowKit
section
variable {P:Program} {C:Cfg} {w:World} {R:Type} {Z:Base}
theorem RelE.slots {tm G:List TV} {aB:List (Nat×Box)} {aC:List (Nat×Row)} {ρ:Env} {tmps D:Array Value} (h:RelE Z tm aB aC ρ tmps w) (I:G.length=D.size)
  (L:∀(i:Nat) (v:TV),G[i]? =some v->TVR ρ w v (D.getD i undef)) (M:∀v∈G,TV.wf aB aC v):RelE Z G aB aC ρ D w:=
 ⟨I,L,M,h.wb,h.bx,h.bi,h.ro,h.ri,h.br,h.ib,h.fr,h.fs,h.i0,h.i1,h.k0⟩
theorem Q3q {s:St} {a:Act} {ρ:Env} (M:RelE Z s.tmps s.aB s.aC ρ a.tmps w):∀(l:List ResultVar) (ps:List (Bool×List AC)),KS P s l=some ps->
  ∃ xs : List Value, (l.mapM fun
   | .tmp t=>pure (a.tmps.getD t undef)
   | .cell b t=>do loadVar t (<-asAddr (a.tmps.getD b undef)):Sem (List Value)).run P w= .ok xs w/\TP ρ w ps xs/\∀p∈ps,∀c∈p.2,AC.wf s.aB s.aC c
 |[],ps,h=>by simp[KS]at h;subst h;exact⟨[],rfl,trivial,by simp⟩
 |rv::l,ps,h=>by
  simp only[KS]at h;split at h
  ·rename_i g cs D;split at h
   ·rename_i U V;simp at h;subst h;obtain⟨xs,h1,h2,h3⟩:=Q3q M l U V;have key : ∃ x, ((match rv with
      | .tmp t=>pure (a.tmps.getD t undef)
      | .cell b t=>do loadVar t (<-asAddr (a.tmps.getD b undef)):Sem Value)).run P w= .ok x w/\TVR ρ w (.v g cs) x/\TV.wf s.aB s.aC (.v g cs):=by
     cases rv with
     |tmp t=>
      simp only[Qmt]at D;split at D
      ·rename_i g' N O;simp at D;obtain⟨rfl,rfl⟩:=D;have X:t<s.tmps.length:=by
        rcases ju t s.tmps.length with I|L
        ·exact I
        ·rw[BV,List.getD,db L]at O;simp at O
       have G:s.tmps[t]? =some (.v g' N):=by
        rw[BV,List.getD]at O;rw[al X]at O⊢;simpa using O
       exact⟨_,by simp,M.tv t _ G,M.wt _ (bj G)⟩
      ·simp at D
     |cell b t=>
      simp only[Qmt]at D;split at D
      ·rename_i key off g' sz hb hg hs;have Y:b<s.tmps.length:=by
        rcases ju b s.tmps.length with I|L
        ·exact I
        ·rw[BV,List.getD,db L]at hb;simp at hb
       have G:s.tmps[b]? =some (.c (.ptr key off)):=by
        rw[BV,List.getD]at hb;rw[al Y]at hb⊢;simpa using hb
       have hc:=(M.tv b _ G).c;simp only[CC]at hc;split at D
       ·rename_i bo S;obtain⟨arr,q1,q2,q3⟩:=M.bx key bo S;obtain ⟨x, q4, q5⟩ := UY (b := ρ.bx key) (o := 0) hg hs D q2 (λj y hj => by
         simp only[dy];rw[cell_of_row w _ j arr bo.ty (0,0) q1];simpa using hj)
        rw[dy]at q4;exact⟨x,by simp[hc,asAddr,q4],q5,QV D (M.wb key bo S)⟩
       ·simp at D
      ·simp at D
    obtain⟨x,k1,k2,k3⟩:=key;refine⟨x::xs,?_,?_,?_⟩
    ·rw[List.mapM_cons];simp only[Sem.run_bind,Sem.run_pure];rw[k1];simp only[cv];rw[h1];rfl
    ·refine⟨?_,h2⟩;cases g<;>exact k2
    ·intro p T;simp only[ax]at T;rcases T with rfl|T
     ·exact k3
     ·exact h3 p T
   ·simp at h
  ·simp at h
theorem PL:∀(ks:List Kd) (cs:List AC),(DA ks cs).length=cs.length
 |[],[]=>rfl
 |[],_::_=>rfl
 | .sl _::_,[]=>rfl
 | .int _::_,[]=>rfl
 | .bool::_,[]=>rfl
 | .raw::_,[]=>rfl
 | .int _::l,_::cs=>by simp[DA,PL l cs]
 | .bool::l,_::cs=>by simp[DA,PL l cs]
 | .raw::l,_::cs=>by simp[DA,PL l cs]
 | .sl _::l,a::cs=>by cases a<;>simp[DA,PL l cs]
theorem Qvq {ρ:Env}:∀(D:List TypeId) (ps:List (Bool×List AC)) (xs:List Value),TP ρ w ps xs->TP ρ w (Hw P D ps) xs
 |[],ps,xs,h=>by simpa [Hw]using h
 |_::_,[],xs,h=>by simpa [Hw]using h
 |t::D,(g,cs)::ps,[],h=>h.elim
 |t::D,(g,cs)::ps,x::xs,h=>by
  refine⟨?_,Qvq D ps xs h.2⟩;have G:=h.1;cases T:FU P 8 t with
  |none=>exact G
  |some ks=>
   cases g
   ·obtain⟨a,rfl,L⟩:=G;have:=KE ks [a] [x] ⟨L,trivial⟩;have I:=PL ks [a];generalize M:DA ks [a]=l at this I;cases l with
    |nil=>simp at I
    |cons b l=>
     cases l with
     |nil=>exact⟨b,M,this.1⟩
     |cons=>simp at I
   ·obtain⟨N,O,S⟩:=G;exact⟨N,O,KE ks cs _ S⟩
theorem Q6g {aB:List (Nat×Box)} {aC:List (Nat×Row)}:∀(G:List TypeId) (ps:List (Bool×List AC)),(∀p∈ps,∀c∈p.2,AC.wf aB aC c)->∀p∈Hw P G ps,∀c∈p.2,AC.wf aB aC c
 |[],ps,h=>by simpa [Hw]using h
 |_::_,[],h=>by simp[Hw]
 |t::G,(g,cs)::ps,h=>by
  intro p D;simp only[Hw,ax]at D;rcases D with rfl|D
  ·cases L:FU P 8 t with
   |none=>exact h (g,cs) (by simp)
   |some ks=>exact Nb ks cs (h (g,cs) (by simp))
  ·exact Q6g G ps (λq I=>h q (by simp[I])) p D
theorem Qzs {ρ:Env}:∀{ps:List (Bool×List AC)} {xs:List Value},TP ρ w ps xs->ps.length=xs.length
 |[],[],_=>rfl
 |_::_,_::_,h=>by simp[Qzs h.2]
 |[],_::_,h=>h.elim
 |_::_,[],h=>h.elim
theorem Zp0 {ρ:Env} {ps:List (Bool×List AC)} {xs:List Value} (h:TP ρ w ps xs):TVR ρ w (KH ps) (if h:xs.length=1 then xs[0]else .tuple xs.toArray):=by
 have D:=Qzs h
 match ps,xs,h with
 |[],[],_=>exact⟨#[],rfl,trivial⟩
 |[(g,cs)],[x],h=>
  simp only[KH,dv,dite_true,List.getElem_cons_zero];have:=h.1;cases g<;>exact this
 |p::q::ps,x::y::xs,h=>
  have: ¬(x::y::xs).length=1:=by simp
  rw[dif_neg this];exact⟨_,rfl,by simpa using h⟩
theorem Zdu {keys ids:List Nat} {ps:List (Bool×List AC)} (h:Ak (λp:Bool×List AC=>Ak (AC.inK keys ids) p.2) ps=true):TV.inK keys ids (KH ps)=true:=by
 match ps,h with
 |[],h=>exact h
 |[(g,cs)],h=>exact Au.1 h (g,cs) (by simp)
 |p::q::ps,h=>exact h
theorem Zdm {aB:List (Nat×Box)} {aC:List (Nat×Row)} {ps:List (Bool×List AC)} (h:∀p∈ps,∀c∈p.2,AC.wf aB aC c):TV.wf aB aC (KH ps):=by
 match ps,h with
 |[],h=>exact h
 |[(g,cs)],h=>exact h (g,cs) (by simp)
 |p::q::ps,h=>exact h
theorem Qmw {M:Func} {keys0:List Nat} {s:St} {a:Act} (hR:Rel Z s a.tmps w) (a0:∀k b,Z.K0 k=some b->k∈keys0) {K:TV->Mem->Option R} {r:R} (h:L5 P C M keys0 s K=some r):
  ∃x ρ' v m,K v m=some r/\(results M a.tmps).run P w= .ok x w/\RelE Z [v] m.aB m.aC ρ' #[x] w/\(C.keepIn=true->a.tmps.getD 0 undef=ρ'.rv base):=by
 unfold L5 at h;split at h
 ·simp at h
 ·rename_i ps a5;have h1:∃s1,(HP P C s1 λs1=>match KS P s1 M.results.toList with
    |none=>none
    |some ps=>match s1 with
     |⟨tm,aB,aC⟩=>
      bif !C.keepIn||Qeh tm then
      AO (Hw P M.resultTypes.toList ps) λps=>
      AO (Lc aB 4 (AV (cat (λp:Bool×List AC=>cat AC.keys p.2) ps) keys0)) λkeys=>
      AO (NA aB (cat (λp:Bool×List AC=>p.2) ps) keys) λids=>
      AO (aB.filter λp=>AH keys p.1) λD=>
      AO (aC.filter λp=>AH ids p.1||Dd p.1) λN=>
      bif Ak (λp:Bool×List AC=>Ak (AC.inK keys ids) p.2) ps&&Ak (λp:Nat×Box=>Ak (AC.inK keys ids) p.2.cells) D&&Ak (DZ aB) keys0&&Ak (AH keys) keys0 then K (KH ps) (⟨D,N⟩:Mem)else none else none)=some r/\Rel Z s1 a.tmps w:=by
   cases ho:C.ownRes<;>rw[ho]at h
   ·exact T8 _ s a.tmps hR _ _ h
   ·exact⟨s,h,hR⟩
  obtain⟨s1,h1,a1⟩:=h1;obtain⟨s2,I,ρ,O⟩:=LZ a1 h1;split at I
  ·simp at I
  ·rename_i a2 U;obtain⟨xs,q1,q2,q3⟩:=Q3q O _ _ U;obtain⟨tm,aB,aC⟩:=s2;dsimp only at I;obtain⟨G,I⟩:=Zbr I;have S:C.keepIn=true->a.tmps.getD 0 undef=ρ.rv base:=λhk=>by
    rw[hk]at G;simp only[Bool.not_true,Bool.false_or]at G;unfold Qeh at G;split at G
    ·have e:=ac G;subst e;have:=O.tv 0 _ rfl;obtain⟨y,hy,T⟩:=this;simp only[d7,jd]at hy;subst hy;exact T.1
    ·simp at G
   simp only[AW]at I;have V:=Qvq M.resultTypes.toList _ _ q2 (P:=P);have X:=Q6g M.resultTypes.toList _ q3 (P:=P);generalize Hw P M.resultTypes.toList a2=L at I V X;generalize Lc aB 4 (AV (cat (λp:Bool×List AC=>cat AC.keys p.2) L) keys0)=keys at I;generalize NA aB (cat (λp:Bool×List AC=>p.2) L) keys=ids at I;obtain⟨T,I⟩:=Bo I;simp only[ai]at T;have Y:(results M a.tmps).run P w= .ok (if h:xs.length=1 then xs[0]else .tuple xs.toArray) w:=by
    unfold results;rw[Array.mapM_eq_mapM_toList];simp only[Sem.run_bind,Sem.run_map];erw[q1]
    simp only[cv,Sem.run_pure];congr 1
   have a3:TV.inK keys ids (KH L)=true:=Zdu T.1.1.1;have a4:TV.wf aB aC (KH L):=Zdm X;refine⟨_,ρ,_,_,I,Y,?_,S⟩;refine O.filter (by simp) (λi v hi=> ?_) (λv hv=> ?_) (by simp[Ak,a3]) T.1.1.2 (λk b hk=>Au.1 T.2 k (a0 k b hk))
   ·cases i with
    |zero=>simp at hi;subst hi;simpa using Zp0 V
    |succ i=>simp at hi
   ·simp at hv;subst hv;exact a4
theorem Zbd (I:Ai P C) (Y:∀t∈C.eqOk,P.stoodInHeld t=false) (O:P.follows .mixedOrders=true) (hZ:InZ Z) {L:Nat} {f:FuncId} {args:List TV} {mem:Mem} {K:TV->Mem->Option R} {r:R}
  (S:∀c,Fq P f=some c->SubOK P C c 0) (h:EB P C L f args mem K=some r) {ρ:Env} {xs:List Value} (D:RelE Z args mem.aB mem.aC ρ xs.toArray w):
  Calls P f xs.toArray w λe w'=>∃x T v m,e= .returned x/\K v m=some r/\RelE Z [v] m.aB m.aC T #[x] w':=by
 unfold EB at h;split at h
 ·rename_i N U;split at h
  ·rename_i c hc;obtain⟨_,h⟩:=Bo h;simp only[AW]at h;have V:P.funcs[f]? =some N:=by simpa using U
   have hs:=S c (by unfold Fq;rw[U];exact hc);refine calls_of_wp V hc ?_;have hlen:xs.length=args.length:=by simpa using D.tl.symm
   have hR:Rel Z ⟨args++List.replicate (N.ntmps-args.length) TV.vD,mem.aB,mem.aC⟩ (xs.toArray++Array.replicate (N.ntmps-xs.toArray.size) undef) w:=by
    refine⟨ρ,D.slots (by simp[hlen]) (λi u X=> ?_) (λu M=> ?_)⟩
    ·rw[fy]at X;split at X
     ·rename_i a4;have a0:i<xs.length:=by omega
      have e:(xs.toArray++Array.replicate (N.ntmps-xs.toArray.size) undef).getD i undef=xs.toArray.getD i undef:=by
       simp[fx,jm,a0]
      rw[e];exact D.tv i u X
     ·have:=bj X;rw[fu]at this;rw[this.2];trivial
    ·rw[bn]at M;rcases M with M|M
     ·exact D.wt u M
     ·rw[fu]at M;rw[M.2];trivial
   refine wp_mono (Fs I Y O hZ c L 0 _ ⟨_,[]⟩ w _ hs hR rfl h) ?_;rintro e a' w' ⟨ae,s,rfl,hK,a1,hd⟩;have a2:∀k b,Z.K0 k=some b->k∈mem.aB.map (·.1):=by
    intro k b hk;obtain⟨_,bo,a3⟩:=D.k0 k b hk;exact Kw.2 ⟨bo,a3⟩
   have G:L5 P C N (mem.aB.map (·.1)) s K=some r->a'.defers=[]/\∃x,(results N a'.tmps).run P w'= .ok x w'/\∃y T v m,Ending.returned x= .returned y/\K v m=some r/\RelE Z [v] m.aB m.aC T #[y] w':=by
    intro hf;obtain⟨x,T,v,m,h0,h1,h2,_⟩:=Qmw a1 a2 hf;exact⟨hd,x,h1,x,T,v,m,rfl,h0,h2⟩
   cases ae with
   |normal=>
    obtain⟨q1,x,q2,q3⟩:=G hK;exact⟨q1,x,q2,q3⟩
   |ret=>
    obtain⟨q1,x,q2,q3⟩:=G hK;exact⟨q1,x,q2,q3⟩
   |exit id=>simp at hK
  ·simp at h
 ·simp at h
theorem Nn {F:Nat->Prop} {ρ:Env} {aB:List (Nat×Box)} {I:Gt F w} (h:Ak (λp:Nat×Box=>Dd p.1) aB=true):InZ (DS F w ρ aB I):=by
 intro k b G;simp only[DS,bh]at G;obtain⟨bo,D,_⟩:=G;exact Au.1 h (k,bo) (Oh D)
theorem QT {sig osig:Sk} {m:List AC->Option (List AC)} (R:Type) (args:List TV) (mem:Mem) (K:TV->Mem->Option R):Ac sig osig m R args mem K=(Ac sig osig m (TV×Mem) args mem λv m=>some (v,m)).bind λp=>K p.1 p.2:=by
  obtain⟨aB,aC⟩:=mem;simp only[Ac];cases Ak (λp:Nat×Box=>Dd p.1) aB
  ·rfl
  ·simp only[ag];cases Di sig ⟨args,aB,aC⟩with
   |none=>rfl
   |some vars=>
    dsimp only;cases m vars with
    |none=>rfl
    |some o=>
     simp only[af];generalize AA osig o=s;obtain⟨tm,b,r⟩:=s;dsimp only;split<;>rfl
theorem Q2c (I:Ai P C) (X:∀t∈C.eqOk,P.stoodInHeld t=false) (O:P.follows .mixedOrders=true) {L:Nat} {f:FuncId} {sig D:Sk} {m:List AC->Option (List AC)} (h1:sig.okB=true) (h2:D.okB=true)
  (S:∀c,Fq P f=some c->SubOK P C c 0) (hm:∀vars o,m vars=some o->An P C L f sig D vars=some o) {args:List TV} {mem:Mem} {v:TV} {mem':Mem} (h:(Ac sig D m (TV×Mem) args mem λv m=>some (v,m))=some (v,mem')):PCallM P f args mem v mem':=by
  obtain⟨aB,aC⟩:=mem;simp only[Ac]at h;obtain⟨Y,h⟩:=Bo h;split at h
  ·rename_i vars hv;simp only[bf]at h;obtain⟨o,ho,h⟩:=h;have G:=hm vars o ho;intro F w hG ρ xs a0;have hZ:InZ (DS F w ρ aB hG):=Nn Y;have M:=a0.rebuild hZ h1 hv;unfold An at G;generalize hs:AA sig vars=s1 at G M;obtain⟨a1,V,a2⟩:=s1;dsimp only at G M;refine(Zbd I X O hZ S G M).mono ?_;rintro e w' ⟨x,ρ',v',m',he,T,U⟩;obtain⟨b',r'⟩:=m';dsimp only at T U;have N:=U.rebuild hZ h2 T;generalize a3:AA D o=s2 at h N;obtain⟨tm,b2,r2⟩:=s2;dsimp only at h N;split at h
   ·simp only[am,cd]at h;obtain⟨rfl,rfl⟩:=h;exact⟨x,ρ',he,N⟩
   ·simp at h
  ·simp at h
theorem Zqy (G:Ai P C) (N:∀t∈C.eqOk,P.stoodInHeld t=false) (I:P.follows .mixedOrders=true) {L:Nat} {f:FuncId} (O:Nu P f) {sig D:Sk} {m:List AC->Option (List AC)} (S:sig.okB=true) (T:D.okB=true)
  (M:∀c,Fq P f=some c->SubOK P C c 0) (U:∀vars o,m vars=some o->An P C L f sig D vars=some o):SpecRight P f (Ac sig D m):=
 ⟨QT,λ_ _ _ _ h=>PCallM.x (Q2c G N I S T M U h) O⟩
end
open Go.RowKit Go.WideShapes Go.ChangeShapes
def QN (P:Program) (g:TypeId->Option (List Kd)):List Field->Nat->Option (List Kd)
 |[],_=>some []
 |f::fs,o=>match g f.type with
  |some ks=>bif Nat.beq f.offset o&&Nat.beq (P.cellsOf f.type) ks.length then(QN P g fs (o+ks.length)).map (ks++ ·)else none
  |none=>none
def H7 (P:Program):Nat->TypeId->Option (List Kd)
 |0,_=>none
 |n+1,t=>match P.underlying t with
  |some .bool=>some [.bool]
  |some (.int k)=>some [.int k]
  |some (.slice e)=>(H7 P n e).bind λks=>bif Nat.beq (P.cellsOf e) ks.length&&Nat.blt 0 ks.length then some [.sl ks]else none
  |some (.struct fs)=>(QN P (H7 P n) fs.toList 0).bind λks=>bif Nat.beq (P.cellsOf t) ks.length then some ks else none
  |some (.array m e)=>(H7 P n e).bind λks=>bif Nat.beq (P.cellsOf e) ks.length&&Nat.beq (P.cellsOf t) (m*ks.length)then some (Qz ks m)else none
  |_=>none
mutual
def okC:Kd->AC->Prop
 | .int k,a=>k.min<=Af a/\Af a<=k.max
 | .bool,_=>True
 | .sl ks,a=>(Bq a).length<=maxLen/\∀c∈Bq a,okR ks c/\AM ks c=c
 | .raw,_=>True
def okR:List Kd->List AC->Prop
 |[],_=>True
 |_::_,[]=>False
 |k::ks,a::cs=>okC k a/\okR ks cs
end
def Op (w:World) (ks:List Kd) (cs:List Value):Prop:=∃raw,AM ks raw=raw/\CL (CP (λb=>b<w.heap.size) w) raw cs/\okR ks raw
theorem Q3s:∀(D G:List Kd) (I L:List AC),I.length=D.length->AM (D++G) (I++L)=AM D I++AM G L
 |[],G,[],L,_=>rfl
 |k::D,G,a::I,L,h=>by
  simp only[az];rw[Qqu,Qqu,Q3s D G I L (by simpa using h)];rfl
 |[],_,_::_,_,h=>by simp at h
 |_::_,_,[],_,h=>by simp at h
theorem Qyh:∀{D I:List Kd} {G L:List AC},G.length=D.length->okR D G->okR I L->okR (D++I) (G++L)
 |[],_,[],_,_,_,h=>h
 |k::D,I,a::G,L,M,h,h'=>by
  simp only[az,okR]at h⊢;exact⟨h.1,Qyh (by simpa using M) h.2 h'⟩
 |[],_,_::_,_,h,_,_=>by simp at h
 |_::_,_,[],_,h,_,_=>by simp at h
theorem Op.append {w:World} {D G:List Kd} {I L:List Value} (h:Op w D I) (h':Op w G L):Op w (D++G) (I++L):=by
 obtain⟨M,a1,a2,a3⟩:=h;obtain⟨O,b1,b2,b3⟩:=h';have N:M.length=D.length:=by rw[<-a1,S7]
 exact⟨M++O,by rw[Q3s _ _ _ _ N,a1,b1],a2.append b2,Qyh N a3 b3⟩
theorem Op.nil {w:World}:Op w [] []:=⟨[],rfl,trivial,by simp[okR]⟩
section
variable {H:Type} {enc:TypeId×Value->H} {P:Program} {w:World}
theorem Q18 {g:TypeId->Option (List Kd)} {m:Nat} (O:∀(t:TypeId) (ks:List Kd) (cs:List Value) (x:DataW H×List MemPlace),g t=some ks->DataW.trod enc P w 0 (λ_=>true) true m t cs=some x->Op w ks cs):
  ∀(fs:List Field) (o:Nat) (ks:List Kd) (cs:List Value),QN P g fs o=some ks->cs.length=o+ks.length->
   (∀f∈fs,∃x,DataW.trod enc P w 0 (λ_=>true) true m f.type ((cs.drop f.offset).take (P.cellsOf f.type))=some x)->Op w ks (cs.drop o)
 |[],o,ks,cs,h,I,_=>by
  simp[QN]at h;subst h;have:cs.drop o=[]:=by apply j8;simp at I;omega
  rw[this];exact Op.nil
 |f::fs,o,ks,cs,h,I,S=>by
  simp only[QN]at h;split at h
  ·rename_i D L;cases G:(Nat.beq f.offset o&&Nat.beq (P.cellsOf f.type) D.length)<;>rw[G]at h
   ·simp at h
   ·simp only[ag,bh]at h;obtain⟨U,V,rfl⟩:=h;simp only[ai]at G;have e1:f.offset=o:=ac G.1;have e2:P.cellsOf f.type=D.length:=ac G.2;obtain⟨x,M⟩:=S f (by simp);have T:=O _ _ _ _ L M;rw[e1,e2]at T;have X:=Q18 O fs (o+D.length) U cs V (by simp at I;omega) (λY N=>S Y (by simp[N]));have:cs.drop o=(cs.drop o).take D.length++cs.drop (o+D.length):=by
     rw[<-ji,List.take_append_drop]
    rw[this];exact T.append X
  ·cases h
theorem Qvv {ks:List Kd}:∀(m:Nat) (cs:List Value),cs.length=m*ks.length->(∀i,i<m->Op w ks ((cs.drop (i*ks.length)).take ks.length))->Op w (Qz ks m) cs
 |0,cs,D,_=>by
  have:cs=[]:=by simpa using D
  subst this;exact Op.nil
 |m+1,cs,D,h=>by
  have G:=h 0 (by omega);simp at G;have:cs=cs.take ks.length++cs.drop ks.length:=(List.take_append_drop _ _).symm;rw[this,Qz];refine G.append (Qvv m _ ?_ λi I=> ?_)
  ·simp[D,gn]
  ·have:=h (i+1) (by omega);rw[ji];rw[gn,jx]at this;exact this
theorem Zua {ks:List Kd} {cs:List Value} {e t:TypeId} {fuel:Nat} {x:DataW H×List MemPlace} (hu:P.underlying t=some (.slice e)) (e1:P.cellsOf e=ks.length) (e2:0<ks.length)
  (hx:DataW.trod enc P w 0 (λ_=>true) true fuel t cs=some x) (ih:∀(m:Nat) (cs:List Value) (x:DataW H×List MemPlace),DataW.trod enc P w 0 (λ_=>true) true m e cs=some x->Op w ks cs):Op w [.sl ks] cs:=by
 rcases Go.Deep.open_slice hu hx with⟨rfl,_⟩|⟨a,len,cap,m,n,D,Pl,rfl,_,hl,a9,hm,_,hi⟩
 ·refine⟨[.vC ks []],rfl,⟨TK ks,trivial⟩,?_⟩;simp[okR,okC,Bq]
 ·have a1:m=cap:=by simpa using hm
  subst a1
  have hex:∀i,∃(S:List Value) (raw:List AC),i<len->(w.cells? 0 (a.add (i*P.cellsOf e)) (P.cellsOf e)=some S/\AM ks raw=raw/\CL (CP (λb=>b<w.heap.size) w) raw S/\okR ks raw):=λi=>by
   by_cases L:i<len
   ·obtain⟨V,N,X⟩:=hi i (by omega);obtain⟨raw,r1,r2,r3⟩:=ih n V _ X;exact⟨V,raw,λ_=>⟨N,r1,r2,r3⟩⟩
   ·exact⟨[],[],λh=>(L h).elim⟩
  let S:Nat->List Value:=λi=>Classical.choose (hex i)
  let G:Nat->List AC:=λi=>Classical.choose (ez (hex i))
  have M:∀i,i<len->(w.cells? 0 (a.add (i*P.cellsOf e)) (P.cellsOf e)=some (S i)/\AM ks (G i)=G i/\CL (CP (λb=>b<w.heap.size) w) (G i) (S i)/\okR ks (G i)):=λi=>ez (ez (hex i));have hlen:((List.range len).map G).length=len:=by simp
  have Y:∀i (hi:i<((List.range len).map G).length),((List.range len).map G)[i]=G i:=λi hi=>by simp
  have O:∀c∈(List.range len).map G,∃i,i<len/\c=G i:=λc U=>by
   simp only[av,List.mem_range]at U;obtain⟨i,N,X⟩:=U;exact⟨i,N,X.symm⟩
  refine⟨[.vC ks ((List.range len).map G)],rfl,⟨?_,trivial⟩,?_⟩
  ·rw[CP];refine⟨some a,m,by rw[hlen],by rw[hlen];exact hl,λc U=> ?_,?_⟩
   ·obtain⟨i,N,rfl⟩:=O c U;exact(M i N).2.1
   ·by_cases h0:len=0
    ·subst h0;exact .inl rfl
    ·right;have h0:0<len:=by omega
     obtain⟨a2,r1,r2,_⟩:=M 0 h0;obtain⟨_,a3,a0⟩:=World.cells?_some a2;have I:=a0 0 (by omega);simp only[ik]at I;have ea:(a.add 0).add 0=a:=by simp[Addr.add]
     rw[ea,al (by omega)]at I;have T:a.spot=none/\a.block<w.heap.size:=by
      unfold World.cell? at I;split at I
      ·rename_i hb;split at I
       ·cases I
       ·rename_i a4;refine⟨by simpa using a4,(bt.1 hb).1⟩
      ·cases I
     obtain⟨b,o,sp⟩:=a;obtain⟨rfl,hb⟩:=T;refine⟨b,o,rfl,hb,SA λi L=> ?_⟩;rw[Y i L];rw[hlen]at L;obtain⟨a5,a6,a7,_⟩:=M i L;obtain⟨_,hle,a8⟩:=World.cells?_some a5;refine⟨by rw[<-a6];exact S7 _ _,Vp _ (S i) b _ a7 λj y hj=> ?_⟩;have b0:j<(S i).length:=(fg.1 hj).1;have:=a8 j (by omega);rw[<-hj,<-this,e1];congr 1;unfold Addr.add;by_cases N:i*ks.length=0<;>by_cases X:j=0<;>simp[N,X,dm]
  ·simp only[okR,okC,Bq,jd];refine⟨by rw[hlen];omega,λc U=> ?_⟩;obtain⟨i,N,rfl⟩:=O c U;exact⟨(M i N).2.2.2,(M i N).2.1⟩
theorem QA:∀(n:Nat) (m:Nat) (t:TypeId) (ks:List Kd) (cs:List Value) (x:DataW H×List MemPlace),H7 P n t=some ks->DataW.trod enc P w 0 (λ_=>true) true m t cs=some x->Op w ks cs
 |0,_,_,_,_,_,h,_=>by simp[H7]at h
 |n+1,m,t,ks,cs,x,h,M=>by
  unfold H7 at h;split at h
  ·rename_i L;simp at h;subst h;obtain⟨b,rfl,_⟩:=DataW.trod_bool L M;exact⟨[.bool b],rfl,⟨Qst _,trivial⟩,by simp[okR,okC]⟩
  ·rename_i k L;simp at h;subst h;obtain⟨i,rfl,_,X⟩:=DataW.trod_int L M;exact⟨[.int k i],rfl,⟨Gv _ _,trivial⟩,by simpa [okR,okC,Af,Lit.wf]using X⟩
  ·rename_i e L;simp only[bf]at h;obtain⟨I,N,D⟩:=h;cases G:(Nat.beq (P.cellsOf e) I.length&&Nat.blt 0 I.length)<;>rw[G]at D
   ·simp at D
   ·simp at D;subst D;simp only[ai]at G;have e1:=ac G.1;have e2:0<I.length:=by have:=G.2;simp[Nat.blt]at this;omega
    exact Zua L e1 e2 M λm cs x=>QA n m e I cs x N
  ·rename_i fs L;obtain⟨xs,S,rfl,_,hlen,T,hf⟩:=DataW.trod_struct L M;simp only[bf]at h;obtain⟨I,N,D⟩:=h;cases G:Nat.beq (P.cellsOf t) I.length<;>rw[G]at D
   ·simp at D
   ·simp at D;subst D;have e:=ac G;have := Q18 (λt ks cs x => QA n S t ks cs x) fs.toList 0 I cs N (by omega) (λf U => by
     obtain⟨i,V⟩:=List.mem_iff_getElem?.1 U;have O:fs[i]? =some f:=by simpa using V
     have:=hf i f O;have Y:i<fs.size:=by
      have:=(bt.1 O).1;exact this
     rw[this,al (by omega)];exact⟨_,rfl⟩)
    simpa using this
  ·rename_i k e L;obtain⟨xs,S,rfl,_,hlen,T,hf⟩:=DataW.trod_array L M;simp only[bf]at h;obtain⟨I,N,D⟩:=h;cases G:(Nat.beq (P.cellsOf e) I.length&&Nat.beq (P.cellsOf t) (k*I.length))<;>rw[G]at D
   ·simp at D
   ·simp at D;subst D;simp only[ai]at G;have e1:=ac G.1;have e2:=ac G.2;refine Qvv k cs (by omega) λi V=> ?_;have:=hf i V;rw[e1]at this;refine QA n S e I _ (xs[i]'(by omega)) N ?_;rw[this,al]
  ·cases h
end
structure Ar where
 agg:Bool
 ks:List Kd
 raw:List AC
def Ar.sh (a:Ar):Bool×List Kd:=(a.agg,a.ks)
def Ar.ok (a:Ar):Prop:=okR a.ks a.raw/\AM a.ks a.raw=a.raw
def Ar.tv (a:Ar):TV:= .v a.agg (AM a.ks a.raw)
def shK (P:Program) (t:TypeId):Option (Bool×List Kd):=match P.underlying t with
 |some (.struct _)=>(H7 P 8 t).map λks=>(true,ks)
 |some (.array _ _)=>(H7 P 8 t).map λks=>(true,ks)
 |some .bool=>some (false,[.bool])
 |some (.int k)=>some (false,[.int k])
 |some (.slice _)=>(H7 P 8 t).map λks=>(false,ks)
 |_=>none
section
variable {H:Type} {enc:TypeId×Value->H} {P:Program} {W:World}
theorem Zuy {t:TypeId} {v:Value} {d:DataW H} {p:List MemPlace} {r:Reach} {T:Nat} {sh:Bool×List Kd} (D:shK P t=some sh) (L:Value.okWide P W r T t v)
  (h:DataW.Trod enc P W 0 (λ_=>true) true t v d p):∃a:Ar,a.sh=sh/\a.ok/\∀(ρ:Env),ρ.im=(λb=>b<W.heap.size)->TVR ρ W a.tv v:=by
 have agg:∀(ks:List Kd) (cs:Array Value),H7 P 8 t=some ks->v= .agg cs->∃a:Ar,a.sh=(true,ks)/\a.ok/\∀(ρ:Env),ρ.im=(λb=>b<W.heap.size)->TVR ρ W a.tv v:=by
  rintro ks cs I rfl;obtain⟨fuel,hf⟩:=h;obtain⟨raw,M,N,O⟩:=QA 8 fuel t ks _ _ I hf;refine⟨⟨true,ks,raw⟩,rfl,⟨O,M⟩,λρ S=>⟨cs,rfl,?_⟩⟩;rw[M];exact N.mono λa _ x U=>Ix (by rw[S];exact U)
 unfold shK at D;split at D
 ·rename_i fs G;simp only[bh]at D;obtain⟨ks,I,rfl⟩:=D;obtain⟨cs,rfl,_⟩:=okWide_struct G L;exact agg ks cs I rfl
 ·rename_i k e G;simp only[bh]at D;obtain⟨ks,I,rfl⟩:=D;obtain⟨cs,rfl,_⟩:∃cs,v= .agg cs/\cs.size=P.cellsOf t:=by
   simp only[Value.okWide,G]at L;obtain⟨cs,V,X,_⟩:=L;exact⟨cs,V,X⟩
  exact agg ks cs I rfl
 ·rename_i G;simp at D;subst D;obtain⟨n,rfl,_,_⟩:=open_bool G L h;exact⟨⟨false,[.bool],[.bool n]⟩,rfl,⟨by simp[okR,okC],rfl⟩,λρ _=>TVR.mkBool n⟩
 ·rename_i k G;simp at D;subst D;obtain⟨n,rfl,_,_,Y⟩:=open_int G L h;exact⟨⟨false,[.int k],[.int k n]⟩,rfl,⟨by simpa [okR,okC,Af,Lit.wf]using Y,rfl⟩,λρ _=>TVR.mkInt k n⟩
 ·rename_i e G;simp only[bh]at D;obtain⟨ks,I,rfl⟩:=D;obtain⟨a0,len,cap,rfl⟩:=okWide_slice G L;obtain⟨fuel,hf⟩:=h;obtain⟨raw,M,N,O⟩:=QA 8 fuel t ks _ _ I hf;have hl:raw.length=1:=by rw[N.length];simp[Value.cells]
  match raw,hl with
  |[a],_=>
   refine⟨⟨false,ks,[a]⟩,rfl,⟨O,M⟩,λρ S=>⟨a,M,?_⟩⟩;have:=N.1;exact Ix (by rw[S];simpa [Value.cells]using this)
 ·cases D
theorem Qy8 {r:Reach} {b0:Nat}:∀(L:List TypeId) (G:List Value) (O:List (DataW H)) (p:List MemPlace) (D:List (Bool×List Kd)),L.map (shK P)=D.map some->
  (∀(j:Nat) (t:TypeId) (v:Value),L[j]? =some t->G[j]? =some v->Value.okWide P W r b0 t v)->DataW.TrodAll enc P W 0 (λ_=>true) true L G O p->
  ∃as:List Ar,as.map Ar.sh=D/\(∀a∈as,a.ok)/\G.length=as.length/\∀(i:Nat) (a:Ar) (x:Value),as[i]? =some a->G[i]? =some x->∀(ρ:Env),ρ.im=(λb=>b<W.heap.size)->TVR ρ W a.tv x
 |[],G,O,p,D,I,_,h=>by
  obtain⟨rfl,rfl,rfl⟩:=trodAll_nil h;cases D with
  |nil=>exact⟨[],rfl,by simp,rfl,by simp⟩
  |cons=>simp at I
 |t::L,G,O,p,D,I,Y,h=>by
  obtain⟨v,S,d,T,a,b,rfl,rfl,rfl,M,N⟩:=trodAll_cons h;cases D with
  |nil=>simp at I
  |cons sh D=>
   simp only[ba,d7]at I;obtain⟨as,e1,e2,e3,e4⟩:=Qy8 L S T b D I.2 (λj t v ht U=>Y (j+1) t v (by simpa using ht) (by simpa using U)) N;obtain⟨a,ha,V,hp⟩:=Zuy I.1 (Y 0 t v rfl rfl) M;refine⟨a::as,by simp[ha,e1],?_,by simp[e3],?_⟩
   ·intro x X;rcases ax.1 X with rfl|X
    ·exact V
    ·exact e2 x X
   ·intro i a' x M N;cases i with
    |zero=>simp at M N;subst M;subst N;exact hp
    |succ i=>exact e4 i a' x (by simpa using M) (by simpa using N)
theorem Q0t (T:laidOutB P=true) {U:World} (hb:Below W.heap.size W U) {V:Nat->Bool}:∀(G:List TypeId) (L:List Value) (M:List (DataW H)) (p:List MemPlace),
  G.all (λt=>P.readableRec t&&decide (t<P.types.size))=true->(∀x∈p,x.block<W.heap.size/\V x.block=true)->DataW.TrodAll enc P W 0 (λ_=>true) true G L M p->
  DataW.TrodAll enc P U 0 V true G L M p
 |[],L,M,p,_,_,h=>by
  obtain⟨rfl,rfl,rfl⟩:=trodAll_nil h;exact rfl
 |t::G,L,M,p,N,D,h=>by
  obtain⟨v,O,d,S,a,b,rfl,rfl,rfl,X,Y⟩:=trodAll_cons h;simp only[List.all_cons,ai,cq]at N;refine⟨a,b,WideElems.Trod_stays T N.1.1 N.1.2 X (λx I=>hb.same (D x (by simp[I])).1) (λx I=>(D x (by simp[I])).2),?_,rfl⟩;exact Q0t T hb G O S b N.2 (λx I=>D x (by simp[I])) Y
theorem Zm0 {f:Func} {s:ChangeSpec} {apart fresh handsOn again:Bool} {W O:World} {args:Array Value} {v:Value} {S T:List (DataW H)} {before pa pv:List MemPlace}
  (X:DataW.Whole enc P f.params.toList s.vars apart W args.toList S T before)
  (M:∀(b:Nat) (N:Nat->Bool) (hd:Bool),DataW.TrodAll enc P O b N hd f.resultTypes.toList (v.resultList f.resultTypes.size) (s.fn H (S++T)).results [])
  (D:∀N:Nat->Bool,(∀p∈before,N p.block=true)->DataW.TrodAll enc P O 0 N true f.params.toList args.toList (s.fn H (S++T)).args pa)
  (G:∀N:Nat->Bool,(∀p∈before,N p.block=true)->DataW.TrodVars enc P O N s.vars (s.fn H (S++T)).vars pv)
  (L:before=pa++pv) (hb:Below W.heap.size W O)
  (Y:∀(j:Nat) (t:TypeId) (r:Value),f.resultTypes[j]? =some t->(v.resultList f.resultTypes.size)[j]? =some r->Value.okWide P O .any 0 t r):
  s.post enc P f apart fresh handsOn again W args v O:=by
 have U:∀p∈before,p.block<W.heap.size:=λp I=>X.lt p I;have hold:∀p∈before,(λb=>decide (b<W.heap.size)) p.block=true:=λp I=>by simpa using U p I
 refine⟨S,T,before,[],pa,pv,X,M _ _ _,D _ hold,G _ hold,World.keptBut_mono (λp I=>⟨I,?_⟩) (hb.frame (· ∈before)),λ_=> ?_⟩
 ·rw[L,bn]at I;exact Or.inr I
 ·obtain⟨_,_,_,_,_,hz,hn⟩:=X;refine⟨Y,_,_,([]++pa)++pv,⟨[]++pa,pv,trodAll_append (D _ (λ_ _=>rfl)) (M _ _ _),G _ (λ_ _=>rfl),rfl,?_,?_⟩,?_⟩
  ·intro b off I;have V:MemPlace.cell b off∈before:=by rw[L];simpa using I
   rw[hb.frozen (U _ V)];exact hz b off V
  ·intro ha;have:=hn ha;rw[L]at this;simpa using this
  ·intro p I _;rw[L];simpa using I
theorem Z37 {f:FuncId} {O:Func} {s:ChangeSpec} {apart fresh handsOn again:Bool} {tb:TypeId} {shs:List (Bool×List Kd)} {args:Array Value} {M gs:List (DataW H)} {before:List MemPlace} {base:Nat}
  (G:s.vars=[]) (hl:laidOutB P=true) (a0:O.resultTypes= #[tb]) (a1:P.underlying tb=some .bool)
  (S:O.params.toList.all (λt=>P.readableRec t&&decide (t<P.types.size))=true) (a8:O.params.toList.map (shK P)=shs.map some)
  (T:∀l:List (DataW H),l.length=shs.length->s.fn H l={results:=[.lit (.bool true)],args:=l})
  (a2:∀as:List Ar,as.map Ar.sh=shs->(∀a∈as,a.ok)->PCallM P f (as.map Ar.tv) ⟨[],[]⟩ (.v false [.bool true]) ⟨[],[]⟩)
  (a3:∀(j:Nat) (t:TypeId) (v:Value),O.params[j]? =some t->args[j]? =some v->Value.okWide P W .any base t v)
  (hW:DataW.Whole enc P O.params.toList s.vars apart W args.toList M gs before) (hG:Gt (λb=>b<W.heap.size) W):
  Calls P f args W λe W'=>∃v,e= .returned v/\s.post enc P O apart fresh handsOn again W args v W':=by
 have a4:=hW;obtain⟨p,q,hA,hV,rfl,b2,b3⟩:=hW;rw[G]at hV;obtain⟨rfl,rfl⟩:=trodVars_none hV;have a9:∀x∈p++[],x.block<W.heap.size:=λx hx=>a4.lt x hx;obtain⟨as,e1,e2,e3,e4⟩:=Qy8 (r:= .any) (b0:=base) O.params.toList args.toList M p shs a8 (λj t v ht hv=>a3 j t v (by simpa using ht) (by simpa using hv)) hA;have b1:M.length=shs.length:=by
  have:∀(ts:List TypeId) (vs:List Value) (M:List (DataW H)) (p:List MemPlace),DataW.TrodAll enc P W 0 (λ_=>true) true ts vs M p->M.length=vs.length:=by
   intro ts;induction ts with
   |nil=>intro vs M p h;obtain⟨rfl,rfl,rfl⟩:=trodAll_nil h;rfl
   |cons t ts ih=>
    intro vs M p h;obtain⟨v,b4,d,b5,a,b,rfl,rfl,rfl,h1,h2⟩:=trodAll_cons h;simp[ih _ _ _ h2]
  rw[this _ _ _ _ hA,e3,<-e1,ah]
 have U:=T (M++[]) (by simpa using b1);have a5:RelE (DS (λb=>b<W.heap.size) W ⟨λ_=>0,λ_=> .slice none 0 0,λ_=>0,λb=>b<W.heap.size⟩ [] hG) (as.map Ar.tv) [] [] ⟨λ_=>0,λ_=> .slice none 0 0,λ_=>0,λb=>b<W.heap.size⟩ args.toList.toArray W:=by
  refine⟨by simpa using e3.symm,λi v hi=> ?_,λv hv=> ?_,λk b D=>by simp[Ab]at D,λk b D=>by simp[Ab]at D,λk k' b b' D=>by simp[Ab]at D,λid r S=>by simp[Ab]at S,
   λid id' r r' g S=>by simp[Ab]at S,λk b id r D=>by simp[Ab]at D,λb hb=>⟨hb,λk bo D=>by simp[Ab]at D,λid r S=>by simp[Ab]at S⟩,Fr.refl _ _,λ_ h=>h,λ_ h=>h,λb h=> .inl h,λk b D=>by simp[DS,Ab]at D⟩
  ·simp only[d8,bh]at hi;obtain⟨a,V,rfl⟩:=hi;have N:i<args.toList.length:=by rw[e3];exact(fg.1 V).1
   have a6:i<args.size:=by simpa using N
   have e:args.toList.toArray.getD i undef=args.toList[i]:=by simp[Array.getD,a6]
   rw[e];exact e4 i a _ V (al N) _ rfl
  ·simp only[av]at hv;obtain⟨a,V,rfl⟩:=hv;intro c L;obtain⟨i,hi⟩:=List.getElem?_of_mem V;have N:i<args.toList.length:=by rw[e3];exact(fg.1 hi).1
   have b6:=e4 i a _ hi (al N) ⟨λ_=>0,λ_=> .slice none 0 0,λ_=>0,λb=>b<W.heap.size⟩ rfl;have X:∀(ks:List Kd) (cs:List AC) (j:Nat),∀c∈Er ks cs j,AC.calm c=true:=by
    intro ks;induction ks with
    |nil=>intro cs j c L;simp[Er]at L
    |cons k ks ih=>
     intro cs j c L;simp only[Er,ax]at L;rcases L with rfl|L
     ·cases k<;>try rfl
      generalize nth AC.vD cs j=b;cases b<;>rfl
     ·exact ih cs _ c L
   have:=X a.ks a.raw 0 c L;cases c<;>first|trivial|(simp[AC.calm]at this)
 have I:=a2 as e1 e2 _ args.toList a5;have Y:args.toList.toArray=args:=by simp
 rw[Y]at I;refine I.mono ?_;rintro e W' ⟨x,ρ',rfl,hR⟩;have hb:Below W.heap.size W W':=⟨hR.fr.os,hR.fr.tape,hR.fr.output,hR.fr.size,λk D=>hR.fr.block k D⟩;have hx:x= .bool true:=by
  have:TVR ρ' W' (.c (.bool true)) x:=by simpa using hR.tv 0 _ rfl
  obtain⟨a,V,L⟩:=this;simp at V;subst V;simpa [CC,CP]using L
 subst hx;refine⟨_,rfl,Zm0 (pa:=p) (pv:=[]) a4 ?_ ?_ ?_ rfl hb (ok_one a0 rfl (okWide_bool_mk a1 true))⟩
 ·intro b sp hd;rw[U,a0];exact trodAll_mk1 (shut_bool a1 true)
 ·intro sp a7;rw[U];simp only[fw];exact Q0t hl hb _ _ _ _ S (λx hx=>⟨a9 x (by simp[hx]),a7 x (by simp[hx])⟩) hA
 ·intro sp a7;rw[U,G];exact rfl
end
theorem Nc:∀{l:List (Nat×Spec)} {k:Nat} {b:Spec},F8 l k=some b->(k,b)∈l
 |[],_,_,h=>by simp[F8]at h
 |(j,c)::l,k,b,h=>by
  simp only[F8]at h;cases hb:Nat.beq j k<;>rw[hb]at h
  ·simp only[aq]at h;exact i9 _ (Nc h)
  ·simp at h;subst h;rw[ac hb];simp
def H9 (P:Program) (f:FuncId):Bool:=match P.funcs[f]? with
 |some fn=> !(fn.name== "runtime.NumGoroutine")&&fn.body.isSome
 |none=>false
theorem IY {P:Program} {f:FuncId} (h:H9 P f=true):Nu P f:=by
 unfold H9 at h;split at h
 ·rename_i D hf;simp only[ai,j6]at h;exact⟨D,hf,h.1,by cases hb:D.body<;>simp_all⟩
 ·cases h
def Al (P:Program) (p:Nat×Spec):Prop:=SpecRight P p.1 p.2
def AllOK (P:Program):List (Nat×Spec)->Prop
 |[]=>True
 |p::l=>Al P p/\AllOK P l
theorem AllOK.mem {P:Program}:∀{l:List (Nat×Spec)},AllOK P l->∀p∈l,Al P p
 |_::l,h,p,D=>by
  rcases ax.1 D with rfl|D
  ·exact h.1
  ·exact AllOK.mem h.2 p D
theorem Ao {P:Program} {C:Cfg} {l:List (Nat×Spec)} (L:C.spec=F8 l) (h:AllOK P l) (D:C.ro=λ_=>false:=by rfl) (G:C.keepR=λ_=>false:=by rfl):Ai P C:=by
 refine⟨λf g I=> ?_,λf g _ h=> ?_,λf g _ h=>(by rw[G]at h;cases h)⟩
 ·rw[L]at I;exact h.mem _ (Nc I)
 ·rw[D]at h;cases h
def AllRo (rs:List Nat):List (Nat×Spec)->Prop
 |[]=>True
 |p::l=>(AH rs p.1=false\/T4 p.2)/\AllRo rs l
theorem AllRo.mem {rs:List Nat}:∀{l:List (Nat×Spec)},AllRo rs l->∀p∈l,AH rs p.1=false\/T4 p.2
 |_::l,h,p,D=>by
  rcases ax.1 D with rfl|D
  ·exact h.1
  ·exact AllRo.mem h.2 p D
abbrev V:=IntKind.wrap .i64
theorem Hx {P:Program} {C:Cfg} {l:List (Nat×Spec)} {rs:List Nat} (M:C.spec=F8 l) (h:AllOK P l) (G:C.ro=λf=>AH rs f) (N:AllRo rs l) (I:C.keepR=λ_=>false:=by rfl):Ai P C:=by
 refine⟨λf g D=> ?_,λf g D L=> ?_,λf g _ h=>(by rw[I]at h;cases h)⟩
 ·rw[M]at D;exact h.mem _ (Nc D)
 ·rw[M]at D;rw[G]at L;rcases N.mem _ (Nc D)with h|h
  ·dsimp only at h L;rw[L]at h;cases h
  ·exact h
theorem Ae {x:Int} (h: -9223372036854775808<=x/\x<=9223372036854775807:=by omega):V x=x:=by
 simp[V,IntKind.wrap,IntKind.signed,IntKind.bits];omega
section loops
variable {step:List AC->Option (Nat×List AC)}
theorem Qrm:∀{n:Nat} {vars:List AC} {o:Nat×List AC},Cc step n vars=some o->Cc step (n+1) vars=some o
 |0,_,_,h=>by simp[Cc]at h
 |n+1,vars,o,h=>by
  rw[Cc]at h⊢;simp only[bf]at h⊢;obtain⟨q,I,D⟩:=h;refine⟨q,I,?_⟩;split at D
  ·rename_i G;rw[ab G];exact Qrm D
  ·rename_i G;rw[aa G];exact D
theorem Q3f {n m:Nat} {vars:List AC} {o:Nat×List AC} (D:n<=m) (h:Cc step n vars=some o):Cc step m vars=some o:=by
 induction D with
 |refl=>exact h
 |step _ G=>exact Qrm G
theorem Zum {n m:Nat} {vars:List AC} {o D:Nat×List AC} (h:Cc step n vars=some o) (h':Cc step m vars=some D):o=D:=by
 have I:=Q3f (Nat.le_max_left n m) h;have G:=Q3f (Nat.le_max_right n m) h';rw[I]at G;simpa using G
open Classical in
noncomputable def Am (step:List AC->Option (Nat×List AC)) (vars:List AC):Option (Nat×List AC):=
 if h:∃n o,Cc step n vars=some o then Cc step (Classical.choose h) vars else none
theorem PD {vars:List AC} {o:Nat×List AC} (h:Am step vars=some o):∃n,Cc step n vars=some o:=by
 unfold Am at h;split at h
 ·exact⟨_,h⟩
 ·simp at h
theorem Qo6 {n:Nat} {vars:List AC} {o:Nat×List AC} (h:Cc step n vars=some o):Am step vars=some o:=by
 unfold Am;have G:∃n o,Cc step n vars=some o:=⟨n,o,h⟩;rw[jh G];obtain⟨I,D⟩:=ez G;rw[D,Zum h D]
theorem Qg (vars:List AC):Am step vars=(step vars).bind λo=>if o.1=0 then Am step o.2 else some o:=by
 cases L:step vars with
 |none=>
  cases G:Am step vars with
  |none=>rfl
  |some o=>
   obtain⟨n,D⟩:=PD G;cases n with
   |zero=>simp[Cc]at D
   |succ n=>simp[Cc,L]at D
 |some q=>
  simp only[af];by_cases I:q.1=0
  ·rw[ab I];cases G:Am step q.2 with
   |none=>
    cases M:Am step vars with
    |none=>rfl
    |some o=>
     obtain⟨n,D⟩:=PD M;cases n with
     |zero=>simp[Cc]at D
     |succ n=>
      simp only[Cc,L,af,ab I]at D;rw[Qo6 D]at G;cases G
   |some o=>
    obtain⟨n,D⟩:=PD G;exact Qo6 (n:=n+1) (by simp only[Cc,L,af,ab I];exact D)
  ·rw[aa I];exact Qo6 (n:=1) (by simp only[Cc,L,af,aa I])
end loops
theorem JV:∀(c:Code) (b blk:Nat) (body:Code),(blk,body)∈AQ c b->(∀p∈AQ body blk,p∈AQ c b)/\(∀p∈Cj body,p∈Cj c)/\(∀p∈BA body blk,p∈BA c b)
 | .seq x y,b,blk,body,h=>by
  simp only[AQ,bn]at h;rcases h with h|h
  ·obtain⟨G,I,L⟩:=JV x b blk body h;exact⟨λp D=>by simp[AQ,G p D],λp D=>by simp[Cj,I p D],λp D=>by simp[BA,L p D]⟩
  ·obtain⟨G,I,L⟩:=JV y b blk body h;exact⟨λp D=>by simp[AQ,G p D],λp D=>by simp[Cj,I p D],λp D=>by simp[BA,L p D]⟩
 | .cond c x y,b,blk,body,h=>by
  simp only[AQ,bn]at h;rcases h with h|h
  ·obtain⟨G,I,L⟩:=JV x b blk body h;exact⟨λp D=>by simp[AQ,G p D],λp D=>by simp[Cj,I p D],λp D=>by cases c<;>simp[BA,L p D]⟩
  ·obtain⟨G,I,L⟩:=JV y b blk body h;exact⟨λp D=>by simp[AQ,G p D],λp D=>by simp[Cj,I p D],λp D=>by cases c<;>simp[BA,L p D]⟩
 | .block id x,b,blk,body,h=>by
  simp only[AQ]at h;obtain⟨G,I,L⟩:=JV x b blk body h;exact⟨λp D=>by simp[AQ,G p D],λp D=>by simp[Cj,I p D],λp D=>by simp[BA,L p D]⟩
 | .loop x,b,blk,body,h=>by
  simp only[AQ,ax,cd]at h;rcases h with⟨rfl,rfl⟩|h
  ·exact⟨λp D=>by rw[IF _ _ b]at D;simp[AQ,D],λp D=>by simp[Cj,D],λp D=>by rw[Jc _ _ b]at D;simp[BA,D]⟩
  ·obtain⟨G,I,L⟩:=JV x b blk body h;exact⟨λp D=>by simp[AQ,G p D],λp D=>by simp[Cj,I p D],λp D=>by simp[BA,L p D]⟩
 | .skip,_,_,_,h=>by simp[AQ]at h
 | .region _ _ _,_,_,_,h=>by simp[AQ]at h
 | .exit _,_,_,_,h=>by simp[AQ]at h
 | .ret,_,_,_,h=>by simp[AQ]at h
 | .rangeFunc _ _ _ _,_,_,_,h=>by simp[AQ]at h
 | .scope x,b,blk,body,h=>by
  simp only[AQ]at h;obtain⟨G,I,L⟩:=JV x b blk body h;exact⟨λp D=>by simp[AQ,G p D],λp D=>by simp[Cj,I p D],λp D=>by simp[BA,L p D]⟩
 | .label _,_,_,_,h=>by simp[AQ]at h
 | .goto _,_,_,_,h=>by simp[AQ]at h
 | .refuse _,_,_,_,h=>by simp[AQ]at h
structure FnOK (P : Program) (C : Cfg) (f : FuncId) : Prop where
 l:∀p∈GA P f,∀sk g,C.loops p.1=some (sk,g)->Ku P (.loop p.2) sk g
 b:∀p∈YB P f,∀sk g,C.blocks p.1=some (sk,g)->Ku P (.block p.1 p.2) sk g
 c:∀p∈Vd P f,∀sk g,C.conds p.1=some (sk,g)->Ku P (.cond (.tmp p.1) p.2.2.1 p.2.2.2) sk g
theorem FnOK.bare {P:Program} {C:Cfg} {f:FuncId} (D:C.loops=λ_=>none) (G:C.blocks=λ_=>none) (I:C.conds=λ_=>none):FnOK P C f:=
 ⟨λp _ sk g h=>by simp[D]at h,λp _ sk g h=>by simp[G]at h,λp _ sk g h=>by simp[I]at h⟩
theorem FnOK.sub {P:Program} {C:Cfg} {f:FuncId} (h:FnOK P C f) {c:Code} (G:Fq P f=some c):SubOK P C c 0:=
 ⟨λp D=>h.l p (by unfold GA;rw[G];exact D),λp D=>h.b p (by unfold YB;rw[G];exact D),λp D=>h.c p (by unfold Vd;rw[G];exact D)⟩
theorem Q5z {P:Program} {f blk:Nat} {c:Code} (h:Ab (GA P f) blk=some c):AN P f blk=c:=by unfold AN;rw[h]
theorem UC {α:Type}:∀{l:List (Nat×α)} {k:Nat} {b:α},BH (l.map (·.1))=true->(k,b)∈l->Ab l k=some b
 |[],_,_,_,h=>by simp at h
 |(j,c)::l,k,b,G,h=>by
  have D:=Iu.1 G;simp only[ba,jp]at D;simp only[Ab];rcases ax.1 h with h|h
  ·simp at h;obtain⟨rfl,rfl⟩:=h;simp
  ·have:j≠k:=by rintro rfl;exact D.1 (av.2 ⟨(j,b),h,rfl⟩)
   rw[JZ this];exact UC (Iu.2 D.2) h
theorem FnOK.subLoop {P:Program} {C:Cfg} {f:FuncId} (h:FnOK P C f) {blk:Nat} {body:Code} (G:(blk,body)∈GA P f):SubOK P C body blk:=by
 unfold GA at G;split at G
 ·rename_i c I;obtain⟨L,M,N⟩:=JV c 0 blk body G;exact⟨λp D=>h.l p (by unfold GA;rw[I];exact L p D),λp D=>h.b p (by unfold YB;rw[I];exact M p D),λp D=>h.c p (by unfold Vd;rw[I];exact N p D)⟩
 ·simp at G
theorem FnOK.loop {P:Program} {C:Cfg} {f:FuncId} (h:FnOK P C f) (G:Ai P C) (O:∀t∈C.eqOk,P.stoodInHeld t=false) (M:P.follows .mixedOrders=true) {L blk:Nat} {sk:Sk} {D:List (Ex×Sk)}
  (V:BH ((GA P f).map (·.1))=true) (S:sk.okB=true):FnOK P (C.loop blk sk D (Am (AL P C L blk (AN P f blk) sk D))) f:=by
 refine⟨λp T U g N=> ?_,h.b,h.c⟩;simp only[Cfg.loop]at N;cases hb:Nat.beq p.1 blk<;>rw[hb]at N
 ·exact h.l p T U g N
 ·have e:=ac hb;subst e;simp only[ag,am,cd]at N;obtain⟨rfl,rfl⟩:=N;have I:=Q5z (UC (k:=p.1) (b:=p.2) V T);rw[I];exact Zvu G O M S (h.subLoop T) λvars o X=>PD X
theorem Qoh {P:Program} {C:Cfg} {f:FuncId} {L:Nat} {sig D:Sk} (O:H9 P f=true) (h:FnOK P C f) (G:Ai P C) (N:∀t∈C.eqOk,P.stoodInHeld t=false) (M:P.follows .mixedOrders=true)
  (S:sig.okB=true) (T:D.okB=true):Al P (f,Ac sig D (An P C L f sig D)):=
 Zqy G N M (IY O) S T (λ_ I=>h.sub I) λ_ _ U=>U
theorem Ybk {P:Program} {C:Cfg} {f:FuncId} {L:Nat} {sig D:Sk} (_:H9 P f=true) (h:FnOK P C f) (G:Ai P C) (O:∀t∈C.eqOk,P.stoodInHeld t=false) (M:P.follows .mixedOrders=true)
  (S:sig.okB=true) (T:D.okB=true) (args:List TV) (v:TV) (mem':Mem) (N:(Ac sig D (An P C L f sig D) (TV×Mem) args ⟨[],[]⟩ λv m=>some (v,m))=some (v,mem')):PCallM P f args ⟨[],[]⟩ v mem':=
 Q2c G O M S T (λ_ I=>h.sub I) (λ_ _ U=>U) N
theorem Rk {P:Program} {f:FuncId} {sig D:Sk}:Al P (f,Ac sig D λ_=>none):=by
 refine⟨QT,λargs mem v mem' h=> ?_⟩;obtain⟨aB,aC⟩:=mem;simp only[Ac]at h;obtain⟨_,h⟩:=Bo h;split at h
 ·simp at h
 ·simp at h
section
variable {H α:Type}
theorem Zv9 (F G:List (DataW H)->α) (h:∀a b c d e f,F [a,b,c,d,e,f]=G [a,b,c,d,e,f]) (l:List (DataW H)) (D:l.length=6):F l=G l:=by
 match l,D with
 |[a,b,c,d,e,f],_=>exact h a b c d e f
end
theorem NE {l:List Ar} {s:Bool×List Kd} {D:List (Bool×List Kd)} (h:l.map Ar.sh=s::D):∃a G,l=a::G/\a.agg=s.1/\a.ks=s.2/\G.map Ar.sh=D:=by
 cases l with
 |nil=>simp at h
 |cons a G=>
  simp only[ba,d7]at h;refine⟨a,G,rfl,?_,?_,h.2⟩
  ·rw[<-h.1];rfl
  ·rw[<-h.1];rfl
theorem Zq0 {l:List Ar} (h:l.map Ar.sh=[]):l=[]:=by
 cases l with
 |nil=>rfl
 |cons a D=>simp at h
open Go.RowKit
section
variable {P:Program} {C:Cfg} {w:World} {Z:Base} {R:Type}
def UG (o:Oper):Bool:=match o.dst with
 |some 0=>false
 |_=>true
def kpC:Code->Bool
 | .skip=>true
 | .region _ ops draw=> !draw&&Ak UG ops.toList
 | .seq x y=>kpC x&&kpC y
 | .cond _ x y=>kpC x&&kpC y
 | .block _ b=>kpC b
 | .loop b=>kpC b
 | .exit _=>true
 | .ret=>true
 |_=>false
theorem Z5l {a:Act} {o:Oper} {x:Value} (h:UG o=true):(a.put o.dst x).tmps.getD 0 undef=a.tmps.getD 0 undef:=by
 unfold UG at h;cases D:o.dst with
 |none=>rfl
 |some d=>
  rw[D]at h;cases d with
  |zero=>simp at h
  |succ d=>simp[Act.put,fx]
theorem Qr5 (D:Ai P C) (I:∀t∈C.eqOk,P.stoodInHeld t=false) {ops:Array Oper} {Q:Exit->Act->World->Prop} {K:St->Option R} {r:R}:
  ∀(l:List Oper) (s:St) (a:Act) (w:World),Ak UG l=true->Rel Z s a.tmps w->H_ P C ops.toList l s K=some r->
  (∀(L:St) (G:Act) (w':World),K L=some r->Rel Z L G.tmps w'->G.defers=a.defers->G.tmps.getD 0 undef=a.tmps.getD 0 undef->Q .normal G w')->wpList P ops Q l a w
 |[],s,a,w,M,N,h,O=>O s a w h N rfl rfl
 |o::l,s,a,w,M,N,h,O=>by
  rw[Au]at M;have U:=M o (List.mem_cons_self ..);simp only[H_]at h;have := Qx1 (next := wpList P ops Q l) (Q := Q) D I N h (λpo L G w' V S X => Qr5 D I l L G w' (Au.2 λx Y => M x (i9 _ Y)) S V (λs2 a2 w2 h1 h2 h3 h4 => by
   obtain⟨x,rfl⟩:=X;exact O s2 a2 w2 h1 h2 (h3.trans (by cases o.dst<;>rfl)) (h4.trans (Z5l U))))
  simp only[wpList];split
  ·rename_i T;rw[ab T]at this;exact .inl this
  ·rename_i T;rw[aa T]at this;exact this
def TY (Z:Base) (K:Ex->St->Option R) (r:R) (d:List Deferred) (G:Value):Exit->Act->World->Prop:=
 λe a w=>∃D s,KN D=e/\K D s=some r/\Rel Z s a.tmps w/\a.defers=d/\a.tmps.getD 0 undef=G
def Q3u (P:Program) (c:Code) (sk:Sk) (g:IC):Prop:=
 ∀(Z:Base) (_:InZ Z) (a:Act) (w:World) (vars:List AC) (R:Type) (K:Ex->St->Option R) (r:R),Rel Z (AA sk vars) a.tmps w->g R vars K=some r->c.wp P (TY Z K r a.defers (a.tmps.getD 0 undef)) a w
structure KeepOK (P : Program) (C : Cfg) (c : Code) : Prop where
 l:∀p∈AQ c 0,∃sk g,C.loops p.1=some (sk,g)/\Q3u P (.loop p.2) sk g
 b:C.blocks=λ_=>none
 c:C.conds=λ_=>none
theorem Jm (D:Ai P C) (V:∀t∈C.eqOk,P.stoodInHeld t=false) (O:P.follows .mixedOrders=true) (hZ:InZ Z) {r:R} {d:List Deferred} {x0:Value}:
  ∀(c:Code) (L blk:Nat) (s:St) (a:Act) (w:World) (K:Ex->St->Option R),kpC c=true->KeepOK P C c->Rel Z s a.tmps w->a.defers=d->a.tmps.getD 0 undef=x0->Bp P C L c blk s K=some r->c.wp P (TY Z K r d x0) a w
 | .skip,L,blk,s,a,w,K,I,G,M,S,T,h=>wp_skip ⟨.normal,s,rfl,h,M,S,T⟩
 | .region id ops draw,L,blk,s,a,w,K,I,G,M,S,T,h=>by
  rw[Bp]at h;obtain⟨s0,h,M⟩:=SR hZ _ s M h;simp only[kpC,ai]at I;cases draw
  ·exact wp_region_list (Qr5 D V _ s0 a w I.2 M h λs' a' w' Y N U h'=>⟨.normal,s',rfl,Y,N,U.trans S,h'.trans T⟩)
  ·simp at I
 | .seq x y,L,blk,s,a,w,K,I,G,M,S,T,h=>by
  rw[Bp]at h;simp only[kpC,ai]at I;refine wp_seq (wp_mono (Jm D V O hZ x L blk s a w _ I.1 ⟨λp hp=>G.l p (by simp[AQ,hp]),G.b,G.c⟩ M S T h) ?_);rintro e a' w' ⟨ae,s',rfl,Y,N,U,X⟩;cases ae with
  |normal=>exact Jm D V O hZ y L blk s' a' w' K I.2 ⟨λp hp=>G.l p (by simp[AQ,hp]),G.b,G.c⟩ N U X Y
  |exit id=>exact⟨.exit id,s',rfl,Y,N,U,X⟩
  |ret=>exact⟨.ret,s',rfl,Y,N,U,X⟩
 | .cond c x y,L,blk,s,a,w,K,I,G,M,S,T,h=>by
  simp only[kpC,ai]at I;have hx:KeepOK P C x:=⟨λp hp=>G.l p (by simp[AQ,hp]),G.b,G.c⟩;have hy:KeepOK P C y:=⟨λp hp=>G.l p (by simp[AQ,hp]),G.b,G.c⟩;rw[Bp]at h;have hn:TW C c=none:=by
   unfold TW;split
   ·rw[G.c]
   ·rfl
  rw[hn]at h;simp only[KD]at h;split at h
  ·rename_i g hg;have a2:a.eval c= .bool g:=by
    obtain⟨ρ,a0⟩:=M;have:=TU a0 c;rw[hg]at this;exact this.bool
   refine wp_cond a2 ?_;split at h
   ·rename_i t;have a3:∀b,g=b->Rel Z ⟨setL s.tmps t (.c (.bool b)),s.aB,s.aC⟩ a.tmps w:=by
     rintro b rfl;obtain⟨ρ,a0⟩:=M;exact⟨ρ,a0.learn t (by have e:a.tmps.getD t undef= .bool g:=a2;rw[e];exact TVR.mkBool _) (Fk _)⟩
    cases g
    ·simp only[aq]at h;rw[EC]at h;exact Jm D V O hZ y L blk _ a w K I.2 hy (a3 false rfl) S T h
    ·simp only[ag]at h;rw[EC]at h;exact Jm D V O hZ x L blk _ a w K I.1 hx (a3 true rfl) S T h
   ·cases g
    ·exact Jm D V O hZ y L blk s a w K I.2 hy M S T h
    ·exact Jm D V O hZ x L blk s a w K I.1 hx M S T h
  ·simp at h
 | .block id body,L,blk,s,a,w,K,I,G,M,S,T,h=>by
  have hb:KeepOK P C body:=⟨λp hp=>G.l p (by simp[AQ,hp]),G.b,G.c⟩;rw[Bp]at h;rw[G.b]at h;simp only[KD]at h;refine wp_block (wp_mono (Jm D V O hZ body L id s a w _ I hb M S T h) ?_);rintro e a' w' ⟨ae,s',rfl,Y,N,U,X⟩;cases ae with
  |normal=>exact⟨.normal,s',rfl,Y,N,U,X⟩
  |exit i=>
   simp only[KN,Exit.inBlock];dsimp only at Y;cases hb:Nat.beq i id<;>rw[hb]at Y
   ·have:i≠id:=λe=>by rw[e]at hb;simp at hb
    rw[aa this];exact⟨.exit i,s',rfl,Y,N,U,X⟩
   ·rw[ab (ac hb)];exact⟨.normal,s',rfl,Y,N,U,X⟩
  |ret=>exact⟨.ret,s',rfl,Y,N,U,X⟩
 | .loop body,L,blk,s,a,w,K,I,G,M,S,T,h=>by
  rw[Bp]at h;obtain⟨s',h',N⟩:=PO _ s a.tmps M _ r h;obtain⟨s1,h1,a1⟩:=LZ N h';obtain⟨sk,g,hs,a4⟩:=G.l (Rj body,body) (by simp[AQ]);rw[hs]at h1;simp only[KD]at h1;obtain⟨a5,h2⟩:=Bo h1;split at h2
  ·rename_i vars hv;obtain⟨ρ,a1⟩:=a1;obtain⟨tm,aB,aC⟩:=s1;subst S;subst T;exact a4 Z hZ a w vars R K r ⟨ρ,a1.rebuild hZ a5 hv⟩ h2
  ·simp at h2
 | .exit id,L,blk,s,a,w,K,I,G,M,S,T,h=>wp_exit ⟨.exit id,s,rfl,h,M,S,T⟩
 | .ret,L,blk,s,a,w,K,I,G,M,S,T,h=>wp_ret ⟨.ret,s,rfl,h,M,S,T⟩
 | .rangeFunc f ps a6 body,L,blk,s,a,w,K,I,G,M,S,T,h=>by simp[Bp]at h
 | .scope b,L,blk,s,a,w,K,I,G,M,S,T,h=>by simp[kpC]at I
 | .label l,L,blk,s,a,w,K,I,G,M,S,T,h=>by simp[kpC]at I
 | .goto l,L,blk,s,a,w,K,I,G,M,S,T,h=>by simp[Bp]at h
 | .refuse a7,L,blk,s,a,w,K,I,G,M,S,T,h=>by simp[Bp]at h
theorem Zf3 (G:Ai P C) (a0:∀t∈C.eqOk,P.stoodInHeld t=false) (O:P.follows .mixedOrders=true) {L blk:Nat} {body:Code} {sk:Sk} {exits:List (Ex×Sk)} {m:List AC->Option (Nat×List AC)}
  (a1:sk.okB=true) (hc:kpC body=true) (S:KeepOK P C body) (hm:∀vars o,m vars=some o->∃n,Cc (AL P C L blk body sk exits) n vars=some o):Q3u P (.loop body) sk (gOf exits m):=by
 intro Z hZ a w vars R K r hR h;simp only[gOf,bf]at h;obtain⟨⟨t,o⟩,h1,h2⟩:=h;obtain⟨n,hn⟩:=hm vars _ h1;have key:∀(n:Nat) (vars:List AC) (I:Act) (w':World),Rel Z (AA sk vars) I.tmps w'->I.defers=a.defers->I.tmps.getD 0 undef=a.tmps.getD 0 undef->Cc (AL P C L blk body sk exits) n vars=some (t,o)->Code.rounds P body (TY Z K r a.defers (a.tmps.getD 0 undef)) n I w':=by
  intro n;induction n with
  |zero=>intro vars I w' _ _ _ h;simp[Cc]at h
  |succ n ih=>
   intro vars I w' a3 a4 a5 h;simp only[Cc,bf]at h;obtain⟨⟨t',o'⟩,q1,N⟩:=h;rw[rounds_succ];refine wp_mono (Jm G a0 O hZ body L blk _ I w' _ hc S a3 a4 a5 q1) ?_;rintro e a2 w2 ⟨ae,s',rfl,hK,T,U,V⟩;have D:∀X:Ex,J9 exits 1 X s'=some (t',o')->TY Z K r a.defers (a.tmps.getD 0 undef) (KN X) a2 w2:=by
    intro X hx;obtain⟨p1,a6,p2,p3⟩:=Qkd hZ T hx;have ht:t'≠0:=by omega
    dsimp only at N;rw[aa ht]at N;simp at N;obtain⟨rfl,rfl⟩:=N;rw[p2 R K]at h2;exact⟨X,_,rfl,h2,p3,U,V⟩
   cases ae with
   |normal=>
    obtain⟨s3,Y,M⟩:=LZ T hK;split at Y
    ·rename_i vars' hv;simp at Y;obtain⟨rfl,rfl⟩:=Y;simp only[dq]at N;obtain⟨ρ,M⟩:=M;obtain⟨tm,aB,aC⟩:=s3;exact ih _ a2 w2 ⟨ρ,M.rebuild hZ a1 hv⟩ U V N
    ·simp at Y
   |exit i=>exact D _ hK
   |ret=>exact D _ hK
 exact wp_loop_rounds n (key n vars a w hR rfl rfl hn)
theorem Zzy (N:Ai P C) (Y:∀t∈C.eqOk,P.stoodInHeld t=false) (T:P.follows .mixedOrders=true) (hZ:InZ Z) (hk:C.keepIn=true) {L:Nat} {f:FuncId} {args:List TV} {mem:Mem} {K:TV->Mem->Option R} {r:R}
  (U:∀c,Fq P f=some c->kpC c=true/\KeepOK P C c) (h:EB P C L f args mem K=some r) {ρ:Env} {xs:List Value} (D:RelE Z args mem.aB mem.aC ρ xs.toArray w):
  Calls P f xs.toArray w λe w'=>∃x O v m,e= .returned x/\K v m=some r/\RelE Z [v] m.aB m.aC O #[x] w'/\((xs.toArray++Array.replicate ((match P.funcs[f]? with|some G=>G.ntmps|none=>0)-xs.toArray.size) undef).getD 0 undef)=O.rv base:=by
 unfold EB at h;split at h
 ·rename_i G V;split at h
  ·rename_i c hc;obtain⟨_,h⟩:=Bo h;simp only[AW]at h;have I:P.funcs[f]? =some G:=by simpa using V
   have hs:=U c (by unfold Fq;rw[V];exact hc);refine calls_of_wp I hc ?_;have hlen:xs.length=args.length:=by simpa using D.tl.symm
   have hR:Rel Z ⟨args++List.replicate (G.ntmps-args.length) TV.vD,mem.aB,mem.aC⟩ (xs.toArray++Array.replicate (G.ntmps-xs.toArray.size) undef) w:=by
    refine⟨ρ,D.slots (by simp[hlen]) (λi u X=> ?_) (λu S=> ?_)⟩
    ·rw[fy]at X;split at X
     ·rename_i a5;have a0:i<xs.length:=by omega
      have e:(xs.toArray++Array.replicate (G.ntmps-xs.toArray.size) undef).getD i undef=xs.toArray.getD i undef:=by
       simp[fx,jm,a0]
      rw[e];exact D.tv i u X
     ·have:=bj X;rw[fu]at this;rw[this.2];trivial
    ·rw[bn]at S;rcases S with S|S
     ·exact D.wt u S
     ·rw[fu]at S;rw[S.2];trivial
   refine wp_mono (Jm N Y T hZ c L 0 _ ⟨_,[]⟩ w _ hs.1 hs.2 hR rfl rfl h) ?_;rintro e a' w' ⟨ae,s,rfl,hK,a1,hd,h0⟩;have a2:∀k b,Z.K0 k=some b->k∈mem.aB.map (·.1):=by
    intro k b hk;obtain⟨_,bo,a3⟩:=D.k0 k b hk;exact Kw.2 ⟨bo,a3⟩
   have M:L5 P C G (mem.aB.map (·.1)) s K=some r->a'.defers=[]/\∃x,(results G a'.tmps).run P w'= .ok x w'/\∃y O v m,Ending.returned x= .returned y/\K v m=some r/\RelE Z [v] m.aB m.aC O #[y] w'/\((xs.toArray++Array.replicate ((match P.funcs[f]? with|some G=>G.ntmps|none=>0)-xs.toArray.size) undef).getD 0 undef)=O.rv base:=by
    intro hf;obtain⟨x,O,v,m,a4,h1,h2,h3⟩:=Qmw a1 a2 hf;refine⟨hd,x,h1,x,O,v,m,rfl,a4,h2,?_⟩;rw[I];exact h0.symm.trans (h3 hk)
   cases ae with
   |normal=>
    obtain⟨q1,x,q2,q3⟩:=M hK;exact⟨q1,x,q2,q3⟩
   |ret=>
    obtain⟨q1,x,q2,q3⟩:=M hK;exact⟨q1,x,q2,q3⟩
   |exit id=>simp at hK
  ·simp at h
 ·simp at h
theorem Zin {sig:Sk} (D:∃w G,sig.tmps= .v false [.own base w]::G) {vars:List AC} {args:List TV} {b:List (Nat×Box)} {r:List (Nat×Row)} (h:AA sig vars=⟨args,b,r⟩):∃w n l,args= .v false [.own base w n]::l:=by
 obtain⟨w,G,D⟩:=D;unfold AA at h;rw[D]at h;simp only[Es,GE,DE,Dm]at h;injection h with I _ _;exact⟨w,_,_,I.symm⟩
theorem Zlb (M:Ai P C) (a0:∀t∈C.eqOk,P.stoodInHeld t=false) (S:P.follows .mixedOrders=true) (hk:C.keepIn=true) {L:Nat} {f:FuncId} (N:Nu P f) {sig D:Sk} (h1:sig.okB=true) (h2:D.okB=true)
  (h0:∃w ts,sig.tmps= .v false [.own base w]::ts)
  (T:∀c,Fq P f=some c->kpC c=true/\KeepOK P C c):NU P f (Ac sig D (An P C L f sig D)):=by
  intro args mem v mem' h;obtain⟨aB,aC⟩:=mem;simp only[Ac]at h;obtain⟨a1,h⟩:=Bo h;split at h
  ·rename_i vars hv;simp only[bf]at h;obtain⟨o,I,h⟩:=h;intro F w hG ρ xs a2;have hZ:InZ (DS F w ρ aB hG):=Nn a1;have G:=a2.rebuild hZ h1 hv;unfold An at I;have U:=λargs b r=>Zin h0 (vars:=vars) (args:=args) (b:=b) (r:=r);generalize hs:AA sig vars=s1 at I G U;obtain⟨a3,Y,a4⟩:=s1;obtain⟨w0,n0,l0,ha⟩:=U _ _ _ rfl;dsimp only at I G;have a5:xs.toArray.getD 0 undef=ρ.rv base:=by
    obtain⟨y,hy,hc⟩:=G.tv 0 (.v false [.own base w0 n0]) (by rw[ha];rfl);simp only[d7,jd]at hy;subst hy;exact hc.1
   have hlen:0<xs.length:=by
    have:=G.tl;rw[ha]at this;simp at this;omega
   refine .inl ⟨N,(Zzy M a0 S hZ hk T I G).mono ?_⟩;rintro e w' ⟨x,ρ',v',m',he,V,X,a6⟩;obtain⟨b',r'⟩:=m';dsimp only at V X;have O:=X.rebuild hZ h2 V;generalize a7:AA D o=s2 at h O;obtain⟨tm,b2,r2⟩:=s2;dsimp only at h O;split at h
   ·simp only[am,cd]at h;obtain⟨rfl,rfl⟩:=h;refine⟨x,ρ',he,O,?_⟩;rw[<-a6,<-a5];simp[fx,jm,hlen]
   ·simp at h
  ·simp at h
theorem Zya (I:Ai P C) (T:∀t∈C.eqOk,P.stoodInHeld t=false) (N:P.follows .mixedOrders=true) {f:FuncId} {L blk:Nat} {sk:Sk} {D:List (Ex×Sk)} (hb:C.blocks=λ_=>none) (V:C.conds=λ_=>none)
  (X:(GA P f).map (·.1)=[blk]) (U:sk.okB=true) (Y:(match Fq P f with|some c=>kpC c|none=>false)=true) (O:kpC (AN P f blk)=true) (S:(AQ (AN P f blk) 0).length=0):
  ∀c,Fq P f=some c->kpC c=true/\KeepOK P (C.loop blk sk D (Am (AL P C L blk (AN P f blk) sk D))) c:=by
 intro c G;rw[G]at Y;refine⟨Y,λp hp=> ?_,hb,V⟩;have hm:p∈GA P f:=by unfold GA;rw[G];exact hp
 have h1:p.1=blk:=by
  have:=jq (f:=(·.1)) hm;rw[X]at this;simpa using this
 subst h1;have M:=Q5z (UC (k:=p.1) (b:=p.2) (by rw[X];rfl) hm);rw[M]at O S⊢;refine⟨sk,gOf D (Am (AL P C L p.1 p.2 sk D)),by simp[Cfg.loop],Zf3 (L:=L) (blk:=p.1) (exits:=D) I T N U O ⟨λq hq=> ?_,hb,V⟩ λvars o ho=>PD ho⟩;rw[d6 S]at hq;simp at hq
def AllKp (P:Program) (ks:List Nat):List (Nat×Spec)->Prop
 |[]=>True
 |p::l=>(AH ks p.1=false\/NU P p.1 p.2)/\AllKp P ks l
theorem AllKp.mem {P:Program} {ks:List Nat}:∀{l:List (Nat×Spec)},AllKp P ks l->∀p∈l,AH ks p.1=false\/NU P p.1 p.2
 |_::l,h,p,D=>by
  rcases ax.1 D with rfl|D
  ·exact h.1
  ·exact AllKp.mem h.2 p D
theorem HU {P:Program} {ks:List Nat} {p:Nat×Spec} {l:List (Nat×Spec)} (h:AH ks p.1=false) (D:AllKp P ks l):AllKp P ks (p::l):=⟨.inl h,D⟩
theorem Z92 {P:Program} {ks:List Nat} {p:Nat×Spec} {l:List (Nat×Spec)} (h:NU P p.1 p.2) (D:AllKp P ks l):AllKp P ks (p::l):=⟨.inr h,D⟩
theorem Z7z {P:Program} {ks:List Nat}:AllKp P ks []:=trivial
theorem Z5m {P:Program} {C:Cfg} {l:List (Nat×Spec)} {ks:List Nat} (M:C.spec=F8 l) (h:AllOK P l) (G:C.keepR=λf=>AH ks f) (N:AllKp P ks l) (I:C.ro=λ_=>false:=by rfl):Ai P C:=by
 refine⟨λf g D=> ?_,λf g _ h=>(by rw[I]at h;cases h),λf g D L=> ?_⟩
 ·rw[M]at D;exact h.mem _ (Nc D)
 ·rw[M]at D;rw[G]at L;rcases N.mem _ (Nc D)with h|h
  ·dsimp only at h L;rw[L]at h;cases h
  ·exact h
end
end Go.Bm
