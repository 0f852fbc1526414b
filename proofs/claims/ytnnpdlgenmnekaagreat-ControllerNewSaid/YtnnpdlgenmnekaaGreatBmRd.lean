/- the abstract machine -/
import Derived.Test.YtnnpdlgenmnekaaGreatBmCode
import Derived.Orders
import Derived.Test.YtnnpdlgenmnekaaGreatBmStep
import Derived.ProofKit
import Derived.Below
import Derived.OpenShut
import Derived.ChangeSame
import Derived.Deep.Slices
set_option linter.unusedVariables false
set_option linter.unusedSimpArgs false
namespace Go.Bm
open Go.RowKit
def PF (s:St) (d:Option Tmp) (v:TV):St:=
 match d with
 |none=>s
 |some t=>⟨setL s.tmps t v,s.aB,s.aC⟩
section
variable {P:Program} {C:Cfg} {w:World} {R:Type} {Z:Base}
theorem JV (s:St) (d:Option Tmp) (v:TV) (K:St->Option R):put s d v K=K (PF s d v):=EE s d v K
def Aq (dst:Option Tmp) (p:Prim) (aB:List (Nat×Box)) (aC:List (Nat×Row)):Option (TV×List (Nat×Box)):=
 match p with
 | .val v=>some (v,aB)
 | .load g sz key off=>match Ab aB key with
  |some b=>match Cp g sz b.cells off with
   |some v=>some (v,aB)
   |none=>none
  |none=>none
 | .store key off cs=>match Ab aB key with
  |some b=>if Nat.ble (off+cs.length) b.cells.length then some (.dead,upd aB key ⟨b.ty,splice b.cells off cs⟩)else none
  |none=>none
 | .new ty cs=>match dst with
  |some d=>match Ab aB d with
   |some _=>none
   |none=>some (.c (.ptr d 0),ins aB d ⟨ty,cs⟩)
  |none=>none
 | .newView _ ks l=>some (.c (.vC ks l),aB)
 | .rload g sz id idx sub=>match Ab aC id with
  |some r=>match Cp g sz (r.f idx) sub with
   |some v=>some (v,aB)
   |none=>none
  |none=>none
 | .call f args=>match C.spec f with
  |some g=>match Ep aC args with
   |some l=>match g (TV×Mem) l ⟨[],[]⟩ (λv m=>some (v,m))with
    |some (v,⟨[],[]⟩)=>if((!(args.any TV.hasOwn)||v.flat)&&v.plainB)=true then some (v,aB)else none
    |_=>none
   |none=>none
  |none=>none
 | .callD f args=>match C.spec f with
  |some g=>
   if(Ai (TV.inK (AZ (cat AC.keys (cat TV.cellsOf args)) []) []) args&&Ai (λk=>Ai AC.calm (DM aB k)) (AZ (cat AC.keys (cat TV.cellsOf args)) [])&&Bz (AZ (cat AC.keys (cat TV.cellsOf args)) []))=true then
    match CK aB (λk=>base+pos (AZ (cat AC.keys (cat TV.cellsOf args)) []) k) (λi=>base+pos [] i) base (AZ (cat AC.keys (cat TV.cellsOf args)) [])with
    |some E=>match g (TV×Mem) (args.map (TV.ren (λk=>base+pos (AZ (cat AC.keys (cat TV.cellsOf args)) []) k) (λi=>base+pos [] i))) ⟨E,[]⟩ (λv m=>some (v,m))with
     |some (v,⟨D,[]⟩)=>
      if(Ai (λp:Nat×Box=>DA D p.1) E&&Ai (λp:Nat×Box=>DA E p.1) D&&Bz (D.map (·.1))&&Ai (λp:Nat×Box=>Ai AC.calm p.2.cells) D&&v.plainB)=true then
       some (v,Cb (AZ (cat AC.keys (cat TV.cellsOf args)) []) D aB)
      else none
     |_=>none
    |none=>none
   else none
  |none=>none
 |_=>none
theorem Zep (D:Aj P C) {dst:Option Tmp} {p:Prim} (S:Prim.simple (some p)=true) (M:Prim.isApp (some p)=false) (J:Prim.isMk (some p)=false) (s:St) (K:TV->St->Option R):
  A6 C dst p s K=(Aq (C:=C) dst p s.aB s.aC).bind λq=>K q.1 ⟨s.tmps,q.2,s.aC⟩:=by
 obtain⟨tm,aB,aC⟩:=s;cases p<;>simp only[Prim.simple]at S<;>try (simp at S;done)
 case appD=>simp[Prim.isApp]at M
 case callF=>simp[Prim.isMk]at J
 case newRow=>simp[Prim.isMk]at J
 case val v=>rfl
 case newView e ks l=>rfl
 case rload g sz id idx sub=>
  simp only[A6,Aq];cases G:Ab aC id with
  |none=>rfl
  |some r=>
   dsimp only;cases N:Cp g sz (r.f idx) sub<;>rfl
 case load g sz key off=>
  simp only[A6,Aq];cases G:Ab aB key with
  |none=>rfl
  |some b=>
   dsimp only;cases N:Cp g sz b.cells off<;>rfl
 case store key off cs=>
  simp only[A6,Aq];cases G:Ab aB key with
  |none=>rfl
  |some b=>
   dsimp only;cases Nat.ble (off+cs.length) b.cells.length
   ·rfl
   ·simp only[ai,A2,dc,ak]
 case new ty cs=>
  simp only[A6,Aq];cases dst with
  |none=>rfl
  |some d=>
   dsimp only;cases G:Ab aB d with
   |some _=>rfl
   |none=>simp only[A2,ak]
 case call f args=>
  simp only[A6,Aq];cases G:C.spec f with
  |none=>rfl
  |some g=>
   dsimp only;cases N:Ep aC args with
   |none=>rfl
   |some l=>
    dsimp only;have I:=D.1 f g G;rw[I.nat];cases T:g (TV×Mem) l ⟨[],[]⟩ (λv m=>some (v,m))with
    |none=>rfl
    |some q=>
     obtain⟨v,⟨L,O⟩⟩:=q;simp only[ak];cases L with
     |cons _ _=>rfl
     |nil=>
      cases O with
      |cons _ _=>rfl
      |nil=>
       dsimp only;cases((!(args.any TV.hasOwn)||v.flat)&&v.plainB)<;>rfl
 case callD f args=>
  simp only[A6,Aq];cases G:C.spec f with
  |none=>rfl
  |some g=>
   dsimp only;simp only[A2];generalize AZ (cat AC.keys (cat TV.cellsOf args)) []=keys;cases U:(Ai (TV.inK keys []) args&&Ai (λk=>Ai AC.calm (DM aB k)) keys&&Bz keys)
   ·simp
   ·simp only[ai,dc];cases N:CK aB (λk=>base+pos keys k) (λi=>base+pos [] i) base keys with
    |none=>rfl
    |some L=>
     dsimp only;have I:=D.1 f g G;rw[I.nat];cases T:g (TV×Mem) (args.map (TV.ren (λk=>base+pos keys k) (λi=>base+pos [] i))) ⟨L,[]⟩ (λv m=>some (v,m))with
     |none=>rfl
     |some q=>
      obtain⟨v,⟨E,O⟩⟩:=q;simp only[ak];cases O with
      |cons _ _=>rfl
      |nil=>
       dsimp only;cases(Ai (λp:Nat×Box=>DA E p.1) L&&Ai (λp:Nat×Box=>DA L p.1) E&&Bz (E.map (·.1))&&Ai (λp:Nat×Box=>Ai AC.calm p.2.cells) E&&v.plainB)<;>rfl
theorem BI {α:Type} {c:Bool} {p:Option α} {q:α} (h:cond c p none=some q):c=true/\p=some q:=by cases c<;>simp at h;exact⟨rfl,h⟩
def YA (aC:List (Nat×Row)) (e:TypeId) (ks:List Kd) (bytes id:Nat) (x:AC):Option (TV×List (Nat×Row)):=
 match F4 aC ks x with
 |some m=>match Ab aC id with
  |some r=>if(Cj ks r.ks&&Nat.beq r.ty e&&Nat.ble 1 bytes)=true then
    if Nat.ble ((r.l++m).length*bytes) 140737488355328=true then some (.c (.own id r.ks.length (r.l++m).length),upd aC id ⟨e,r.ks,r.l++m⟩)else none
   else none
  |none=>none
 |none=>none
def TE (id:Nat) (tm:List TV) (bx:List (Nat×Box)) (aC:List (Nat×Row)):St:=⟨tm.map (TV.kill id),bx.map λp=>(p.1,p.2.kill id),aC⟩
def Qfb (aC:List (Nat×Row)) (e:TypeId) (ks:List Kd) (bytes d:Nat) (x:AC):Option (TV×List (Nat×Row)):=
 match F4 aC ks x with
 |some m=>match Ab aC d with
  |some _=>none
  |none=>if(Nat.ble 1 ks.length&&Nat.ble 1 bytes)=true then
    if Nat.ble (m.length*bytes) 140737488355328=true then some (.c (.own d ks.length m.length),ins aC d ⟨e,ks,m⟩)else none
   else none
 |none=>none
def IB (dst:Option Tmp):Prim->Option Nat
 | .appD _ _ _ (.own id _ _) _=>some id
 | .appD _ _ _ .nilSl _=>dst
 |_=>none
def IL (dst:Option Tmp) (aC:List (Nat×Row)):Prim->Option (TV×List (Nat×Row))
 | .appD e ks bytes (.own id _ _) x=>YA aC e ks bytes id x
 | .appD e ks bytes .nilSl x=>match dst with
  |some d=>Qfb aC e ks bytes d x
  |none=>none
 |_=>none
def mkG (dst:Option Tmp) (p:Prim):Option (TV×Option (Nat×Row)):=
 match p with
 | .newRow e ks l=>match dst with
  |some d=>some (.c (.own (C.rowAs d) ks.length l.length),some (C.rowAs d,⟨e,ks,l⟩))
  |none=>none
 | .callF f args=>match C.spec f with
  |some g=>if Ai TV.plainB args=true then match g (TV×Mem) args ⟨[],[]⟩ (λv m=>some (v,m))with
    |some (v,⟨[],[]⟩)=>if v.plainB=true then some (v,none)else none
    |some (.v false [.own j _ _],⟨[],[(k,r)]⟩)=>if Nat.beq j k=true then some (.c (.own (Gk (dst.getD 0)) r.ks.length r.l.length),some (Gk (dst.getD 0),r))else none
    |_=>none
   else none
  |none=>none
 |_=>none
def mkD (dst:Option Tmp) (p:Prim) (aC:List (Nat×Row)):Option (TV×List (Nat×Row)):=
 match mkG (C:=C) dst p with
 |some (v,none)=>some (v,aC)
 |some (v,some (k,r))=>match Ab aC k with
  |some _=>none
  |none=>some (v,ins aC k r)
 |none=>none
def D9 (dst:Option Tmp) (p:Prim) (s:St):Option (TV×St):=
 bif Prim.isApp (some p)then match IB dst p with
  |some id=>(IL dst s.aC p).map λq=>(q.1,TE id s.tmps s.aB q.2)
  |none=>none
 else bif Prim.isMk (some p)then(mkD (C:=C) dst p s.aC).map λq=>(q.1,⟨s.tmps,s.aB,q.2⟩)
 else(Aq (C:=C) dst p s.aB s.aC).map λq=>(q.1,⟨s.tmps,q.2,s.aC⟩)
theorem Qwr (D:Aj P C) {dst:Option Tmp} {p:Prim} (N:Prim.simple (some p)=true) (s:St) (K:TV->St->Option R):
  A6 C dst p s K=(D9 (C:=C) dst p s).bind λq=>K q.1 q.2:=by
 cases G:Prim.isApp (some p)with
 |false=>
  cases I:Prim.isMk (some p)with
  |false=>
   rw[Zep D N (by rw[G]) I];unfold D9;rw[G,I];simp only[ao];cases Aq (C:=C) dst p s.aB s.aC<;>rfl
  |true=>
   obtain⟨tm,aB,aC⟩:=s;unfold D9;rw[G,I];simp only[ao,ai];cases p<;>simp[Prim.isMk]at I
   case newRow e ks l=>
    simp only[A6,mkD,mkG];cases dst with
    |none=>rfl
    |some d=>
     dsimp only;cases Ab aC (C.rowAs d)with
     |some _=>rfl
     |none=>simp only[A2];rfl
   case callF f args=>
    simp only[A6,mkD,mkG];cases O:C.spec f with
    |none=>rfl
    |some g=>
     dsimp only;cases V:Ai TV.plainB args
     ·rfl
     simp only[ai,dc];have J:=D.1 f g O;rw[J.nat];cases X:g (TV×Mem) args ⟨[],[]⟩ (λv m=>some (v,m))with
     |none=>rfl
     |some q=>
      obtain⟨v,⟨S,T⟩⟩:=q;simp only[ak];cases S with
      |cons _ _=>cases v<;>rfl
      |nil=>
       cases T with
       |nil=>
        dsimp only;cases v.plainB<;>rfl
       |cons p l=>
        obtain⟨k,r⟩:=p;cases l with
        |cons _ _=>rfl
        |nil=>
         dsimp only;split
         ·rename_i j w0 Y;cases E:Nat.beq j k
          ·simp only[E,cv,ez];rfl
          ·simp only[ai,E,dc];cases M:Ab aC (Gk (dst.getD 0))with
           |some _=>simp only[M];rfl
           |none=>simp only[A2,M];rfl
         ·rename_i L;cases v with
          |dead=>rfl
          |tup ps=>rfl
          |v g cs=>
           cases g with
           |true=>rfl
           |false=>
            cases cs with
            |nil=>rfl
            |cons a l=>
             cases l with
             |cons _ _=>cases a<;>rfl
             |nil=>cases a<;>first|rfl|exact absurd rfl (L _ _ _)
 |true=>
  obtain⟨tm,aB,aC⟩:=s;cases p<;>simp[Prim.isApp]at G
  rename_i e ks bytes U x;unfold D9;simp only[Prim.isApp,ai,A6];cases U
  case own id w' n=>
   dsimp only[IB,IL,YA];cases F4 aC ks x with
   |none=>rfl
   |some m=>
    dsimp only;cases Ab aC id with
    |none=>rfl
    |some r=>
     dsimp only;cases(Cj ks r.ks&&Nat.beq r.ty e&&Nat.ble 1 bytes)
     ·rfl
     ·simp only[ai,dc];cases Nat.ble ((r.l++m).length*bytes) 140737488355328
      ·rfl
      ·simp only[ai,dc,A2];rfl
  case nilSl=>
   dsimp only[IB,IL];cases dst with
   |none=>cases F4 aC ks x<;>rfl
   |some d=>
    dsimp only[Qfb];cases F4 aC ks x with
    |none=>rfl
    |some m=>
     dsimp only;cases Ab aC d with
     |some _=>rfl
     |none=>
      dsimp only;cases(Nat.ble 1 ks.length&&Nat.ble 1 bytes)
      ·rfl
      ·simp only[ai,dc];cases Nat.ble (m.length*bytes) 140737488355328
       ·rfl
       ·simp only[ai,dc,A2];rfl
  all_goals
   dsimp only[IB];cases F4 aC ks x<;>rfl
theorem Q9t (D:Aj P C) {dst:Option Tmp} {p:Prim} {s:St} {K:TV->St->Option R} {r:R} (h:A6 C dst p s K=some r):∃v I,K v I=some r:=by
 obtain⟨tm,aB,aC⟩:=s;cases p<;>simp only[A6]at h
 case val v=>exact⟨_,_,h⟩
 case newView e ks l=>exact⟨_,_,h⟩
 case load g sz key off=>
  repeat' split at h
  all_goals first|(simp at h;done)|exact⟨_,_,h⟩
 case store key off cs=>
  split at h
  ·rename_i b _;cases hb:Nat.ble (off+cs.length) b.cells.length<;>rw[hb]at h
   ·simp at h
   ·simp only[ai,A2]at h;exact⟨_,_,h⟩
  ·simp at h
 case new ty cs=>
  split at h
  ·split at h
   ·simp at h
   ·simp only[A2]at h;exact⟨_,_,h⟩
  ·simp at h
 case newS ty n cs=>
  split at h
  ·split at h
   ·simp at h
   ·simp only[A2]at h;exact⟨_,_,h⟩
  ·simp at h
 case rload g sz id idx sub=>
  repeat' split at h
  all_goals first|(simp at h;done)|exact⟨_,_,h⟩
 case rstore id idx sub cs=>
  split at h
  ·rename_i J _;cases hb:(Nat.ble (sub+cs.length) J.w&&Ai AC.plain cs)<;>rw[hb]at h
   ·simp at h
   ·simp only[ai]at h;split at h
    ·simp only[A2]at h;exact⟨_,_,h⟩
    ·simp at h
  ·simp at h
 case newRow e ks l=>
  split at h
  ·split at h
   ·simp at h
   ·simp only[A2]at h;exact⟨_,_,h⟩
  ·simp at h
 case make e ks bytes n z=>
  split at h
  ·split at h
   ·simp at h
   ·obtain⟨_,h⟩:=BI h;simp only[A2]at h;exact⟨_,_,h⟩
  ·simp at h
 case cutR id a=>
  split at h
  ·obtain⟨_,h⟩:=BI h;simp only[A2]at h;exact⟨_,_,h⟩
  ·simp at h
 case append e ks bytes s x=>
  split at h
  ·split at h
   ·split at h
    ·split at h
     ·simp at h
     ·obtain⟨_,h⟩:=BI h;obtain⟨_,h⟩:=BI h;simp only[A2]at h;exact⟨_,_,h⟩
    ·simp at h
   ·split at h
    ·obtain⟨_,h⟩:=BI h;obtain⟨_,h⟩:=BI h;simp only[A2]at h;exact⟨_,_,h⟩
    ·simp at h
   ·simp at h
  ·simp at h
 case call f args=>
  split at h
  ·rename_i g E;split at h
   ·obtain⟨v,m,h',_⟩:=(D.1 f g E).run h;split at h'
    ·obtain⟨_,h'⟩:=BI h';exact⟨_,_,h'⟩
    ·simp at h'
   ·simp at h
  ·simp at h
 case callM f args=>
  split at h
  ·rename_i g E;cases G:C.keepR f<;>rw[G]at h
   case true=>
    simp only[ai]at h;unfold Pj at h;split at h
    ·split at h
     ·obtain⟨v,m,h',_⟩:=(D.1 f g E).run h;split at h'
      ·obtain⟨_,h'⟩:=BI h';simp only[A2]at h';exact⟨_,_,h'⟩
      ·simp at h'
     ·simp at h
    ·simp at h
   simp only[ao]at h;simp only[A2]at h;obtain⟨_,h⟩:=BI h;split at h
   ·obtain⟨v,m,h',_⟩:=(D.1 f g E).run h;obtain⟨_,h'⟩:=BI h';exact⟨_,_,h'⟩
   ·simp at h
  ·simp at h
 case callF f args=>
  split at h
  ·rename_i g E;obtain⟨_,h⟩:=BI h;obtain⟨v,m,h',_⟩:=(D.1 f g E).run h;split at h'
   ·obtain⟨_,h'⟩:=BI h';exact⟨_,_,h'⟩
   ·split at h'
    ·obtain⟨_,h'⟩:=BI h';split at h'
     ·simp at h'
     ·simp only[A2]at h';exact⟨_,_,h'⟩
    ·simp at h'
   ·simp at h'
  ·simp at h
 case appD e ks bytes s x=>
  split at h
  ·split at h
   ·split at h
    ·obtain⟨_,h⟩:=BI h;obtain⟨_,h⟩:=BI h;simp only[A2]at h;exact⟨_,_,h⟩
    ·simp at h
   ·split at h
    ·split at h
     ·simp at h
     ·obtain⟨_,h⟩:=BI h;obtain⟨_,h⟩:=BI h;simp only[A2]at h;exact⟨_,_,h⟩
    ·simp at h
   ·simp at h
  ·simp at h
 case callD f args=>
  split at h
  ·rename_i g E;simp only[A2]at h;obtain⟨_,h⟩:=BI h;split at h
   ·obtain⟨v,m,h',_⟩:=(D.1 f g E).run h;split at h'
    ·obtain⟨_,h'⟩:=BI h';exact⟨_,_,h'⟩
    ·simp at h'
   ·simp at h
  ·simp at h
theorem Q2z (G:Aj P C) (dst:Option Tmp) (p:Prim) (s:St) (K:TV->St->Option R):A6 C dst p s K=(A6 C dst p s λv N=>some (v,N)).bind λq=>K q.1 q.2:=by
 obtain⟨tm,aB,aC⟩:=s;cases p<;>simp only[A6,A2]
 case val v=>rfl
 case newView e ks l=>rfl
 case load g sz key off=>
  cases Ab aB key with
  |none=>rfl
  |some b=>
   dsimp only;cases Cp g sz b.cells off<;>rfl
 case store key off cs=>
  cases Ab aB key with
  |none=>rfl
  |some b=>
   dsimp only;cases Nat.ble (off+cs.length) b.cells.length<;>rfl
 case new ty cs=>
  cases dst with
  |none=>rfl
  |some d=>
   dsimp only;cases Ab aB d<;>rfl
 case newS ty n cs=>
  cases dst with
  |none=>rfl
  |some d=>
   dsimp only;cases Ab aB d<;>rfl
 case rload g sz id idx sub=>
  cases Ab aC id with
  |none=>rfl
  |some r=>
   dsimp only;cases Cp g sz (r.f idx) sub<;>rfl
 case rstore id idx sub cs=>
  cases Ab aC id with
  |none=>rfl
  |some r=>
   dsimp only;cases(Nat.ble (sub+cs.length) r.w&&Ai AC.plain cs)
   ·rfl
   ·simp only[ai];cases GR r.ks (splice (r.f idx) sub cs)<;>rfl
 case newRow e ks l=>
  cases dst with
  |none=>rfl
  |some d=>
   dsimp only;cases Ab aC (C.rowAs d)<;>rfl
 case make e ks bytes n z=>
  cases dst with
  |none=>rfl
  |some d=>
   dsimp only;cases Ab aC d with
   |some _=>rfl
   |none=>
    dsimp only;cases(decide (0<=n)&&decide (n*(bytes:Int)<=140737488355328))<;>rfl
 case cutR id a=>
  cases Ab aC id with
  |none=>rfl
  |some r=>
   dsimp only;cases Nat.ble a r.l.length<;>rfl
 case append e ks bytes s x=>
  cases F4 aC ks x with
  |none=>rfl
  |some m=>
   dsimp only;cases s
   case nilSl=>
    dsimp only;cases dst with
    |none=>rfl
    |some d=>
     dsimp only;cases Ab aC d with
     |some _=>rfl
     |none=>
      dsimp only;cases(Nat.ble 1 ks.length&&Nat.ble 1 bytes)
      ·rfl
      ·simp only[ai];cases Nat.ble (m.length*bytes) 140737488355328<;>rfl
   case own id w' n=>
    dsimp only;cases Ab aC id with
    |none=>rfl
    |some r=>
     dsimp only;cases(Cj ks r.ks&&Nat.beq r.ty e&&Nat.ble 1 bytes)
     ·rfl
     ·simp only[ai];cases Nat.ble ((r.l++m).length*bytes) 140737488355328<;>rfl
   all_goals rfl
 case appD e ks bytes s x=>
  cases F4 aC ks x with
  |none=>rfl
  |some m=>
   dsimp only;cases s
   case nilSl=>
    dsimp only;cases dst with
    |none=>rfl
    |some d=>
     dsimp only;cases Ab aC d with
     |some _=>rfl
     |none=>
      dsimp only;cases(Nat.ble 1 ks.length&&Nat.ble 1 bytes)
      ·rfl
      ·simp only[ai];cases Nat.ble (m.length*bytes) 140737488355328<;>rfl
   case own id w' n=>
    dsimp only;cases Ab aC id with
    |none=>rfl
    |some r=>
     dsimp only;cases(Cj ks r.ks&&Nat.beq r.ty e&&Nat.ble 1 bytes)
     ·rfl
     ·simp only[ai];cases Nat.ble ((r.l++m).length*bytes) 140737488355328<;>rfl
   all_goals rfl
 case call f args=>
  cases L:C.spec f with
  |none=>rfl
  |some g=>
   dsimp only;cases Ep aC args with
   |none=>rfl
   |some l=>
    dsimp only;have D:=G.1 f g L;rw[D.nat,D.nat (TV×St)];cases g (TV×Mem) l ⟨[],[]⟩ (λv m=>some (v,m))with
    |none=>rfl
    |some q=>
     obtain⟨v,⟨J,M⟩⟩:=q;simp only[ak];cases J with
     |cons _ _=>rfl
     |nil=>
      cases M with
      |cons _ _=>rfl
      |nil=>
       dsimp only;cases((!(args.any TV.hasOwn)||v.flat)&&v.plainB)<;>rfl
 case callM f args=>
  cases L:C.spec f with
  |none=>rfl
  |some g=>
   dsimp only;have D:=G.1 f g L;cases O:C.keepR f
   case true=>
    simp only[ai,Pj];cases YC args with
    |none=>rfl
    |some id=>
     dsimp only;cases Ab aC id with
     |none=>rfl
     |some r=>
      dsimp only;rw[D.nat,D.nat (TV×St)];cases g (TV×Mem) (args.map (TV.ren (λk=>base+pos [] k) (λi=>base+pos [id] i))) ⟨[],[(base,r)]⟩ (λv m=>some (v,m))with
      |none=>rfl
      |some q=>
       obtain⟨v,⟨J,M⟩⟩:=q;simp only[ak];cases J with
       |cons _ _=>rfl
       |nil=>
        cases M with
        |nil=>rfl
        |cons p l=>
         obtain⟨k,r'⟩:=p;cases l with
         |cons _ _=>rfl
         |nil=>
          dsimp only;cases(Nat.beq k base&&Nat.beq r'.ty r.ty&&Cj r'.ks r.ks&&v.plainB)
          ·rfl
          ·simp only[ai,A2];rfl
   simp only[ao];generalize Jn aB 4 (AZ (cat AC.keys (cat TV.cellsOf args)) [])=keys;generalize Lf aB (cat TV.cellsOf args) keys=ids;cases(Ai (TV.inK keys ids) args&&Ai (λk=>Ai (AC.inK keys ids) (DM aB k)) keys&&Bz keys&&Bz ids)
   ·rfl
   ·simp only[ai];cases CK aB (λk=>base+pos keys k) (λi=>base+pos ids i) base keys with
    |none=>cases Eg aC base ids<;>rfl
    |some J=>
     cases Eg aC base ids with
     |none=>rfl
     |some M=>
      dsimp only;rw[D.nat,D.nat (TV×St)];cases g (TV×Mem) (args.map (TV.ren (λk=>base+pos keys k) (λi=>base+pos ids i))) ⟨J,M⟩ (λv m=>some (v,m))with
      |none=>rfl
      |some q=>
       obtain⟨v,⟨E,I⟩⟩:=q;simp only[ak];cases(Ai (λp:Nat×Box=>DA E p.1) J&&Bz (E.map (·.1))&&Bz (I.map (·.1))&&Ai (λk=>GG aB (Bj keys (A7 keys E) (dst.getD 0) k)) (A7 keys E)&&Ai (λk=>GG aC (Bj ids (A7 ids I) (dst.getD 0) k)) (A7 ids I)&&Nat.ble (A7 keys E).length 100&&Nat.ble (A7 ids I).length 100)<;>rfl
 case callF f args=>
  cases L:C.spec f with
  |none=>rfl
  |some g=>
   dsimp only;have D:=G.1 f g L;cases Ai TV.plainB args
   ·rfl
   ·simp only[ai];rw[D.nat,D.nat (TV×St)];cases g (TV×Mem) args ⟨[],[]⟩ (λv m=>some (v,m))with
    |none=>rfl
    |some q=>
     obtain⟨v,⟨J,M⟩⟩:=q;simp only[ak];cases J with
     |cons _ _=>rfl
     |nil=>
      cases M with
      |nil=>dsimp only;cases v.plainB<;>rfl
      |cons p l=>
       obtain⟨k,r⟩:=p;cases l with
       |cons _ _=>rfl
       |nil=>
        dsimp only;split
        ·rename_i j w0 S;cases Nat.beq j k
         ·rfl
         ·simp only[ai];cases Ab aC (Gk (dst.getD 0))<;>rfl
        ·rfl
 case callD f args=>
  cases L:C.spec f with
  |none=>rfl
  |some g=>
   dsimp only;have D:=G.1 f g L;generalize AZ (cat AC.keys (cat TV.cellsOf args)) []=keys;cases(Ai (TV.inK keys []) args&&Ai (λk=>Ai AC.calm (DM aB k)) keys&&Bz keys)
   ·rfl
   ·simp only[ai];cases CK aB (λk=>base+pos keys k) (λi=>base+pos [] i) base keys with
    |none=>rfl
    |some J=>
     dsimp only;rw[D.nat,D.nat (TV×St)];cases g (TV×Mem) (args.map (TV.ren (λk=>base+pos keys k) (λi=>base+pos [] i))) ⟨J,[]⟩ (λv m=>some (v,m))with
     |none=>rfl
     |some q=>
      obtain⟨v,⟨E,I⟩⟩:=q;simp only[ak];cases I with
      |cons _ _=>rfl
      |nil=>
       dsimp only;cases(Ai (λp:Nat×Box=>DA E p.1) J&&Ai (λp:Nat×Box=>DA J p.1) E&&Bz (E.map (·.1))&&Ai (λp:Nat×Box=>Ai AC.calm p.2.cells) E&&v.plainB)<;>rfl
theorem Rz:∀(l:List Nat) (s:St) (K:St->Option R),Hi l s K=(Hi l s some).bind K
 |[],s,K=>rfl
 |id::l,⟨tm,aB,aC⟩,K=>by
  simp only[Hi,A2];cases Ab aC id with
  |none=>exact Rz l _ K
  |some r=>exact Rz l _ K
theorem Qrb (k o:Nat) (e:TypeId) (s:St) (K:St->Option R):J4 P k o e s K=(J4 P k o e s some).bind K:=by
 obtain⟨tm,aB,aC⟩:=s;simp only[J4,A2];cases Ab aB k with
 |none=>rfl
 |some b=>
  dsimp only;cases nth .dead b.cells o<;>try rfl
  dsimp only;cases E9 P 8 e with
  |none=>rfl
  |some ks=>
   dsimp only;cases(Nat.ble 1 ks.length&&GG aC (1000000+1000*k+o))<;>rfl
theorem Y3:∀(l:List (Nat×Nat×TypeId)) (s:St) (K:St->Option R),HF P l s K=(HF P l s some).bind K
 |[],s,K=>rfl
 |(k,o,e)::l,s,K=>by
  simp only[HF];rw[Qrb,Qrb (K:=λD=>HF P l D some)];cases J4 P k o e s some with
  |none=>rfl
  |some D=>exact Y3 l D K
theorem Sg:∀(l:List (Nat×TypeId)) (s:St) (K:St->Option R),HB P l s K=(HB P l s some).bind K
 |[],s,K=>rfl
 |(t,e)::l,⟨tmps,aB,aC⟩,K=>by
  simp only[HB];split
  ·split
   ·rename_i ks _ _;cases Nat.ble 1 ks.length
    ·rfl
    ·simp only[ai,A2];exact Sg l _ K
   ·rfl
  ·exact Sg l _ K
theorem Zdm (s:St) (K:St->Option R):GH P C s K=(GH P C s some).bind K:=by
 simp only[GH,A2];rw[Y3]
 conv=>rhs;rw[Y3]
 cases HF P (cat (λp:Nat×Box=>bif AI C.ownBut p.1 then []else(C.ownOff p.2.ty).map λq=>(p.1,q.1,q.2)) s.aB) s some with
 |none=>rfl
 |some D=>exact Sg _ _ K
theorem Qoe (o:Op) (s:St) (K:St->Option R):G_ P C o s K=(G_ P C o s some).bind K:=by
 unfold G_;rw[Rz]
 conv=>rhs;rw[Rz]
 cases Hi (Qzc C (AK s.tmps) o) s some with
 |none=>rfl
 |some D=>
  simp only[ak];cases Ts C o
  ·rfl
  ·exact Zdm D K
theorem Q43 (G:Aj P C) (pre:Bool) (ops:List Oper) (o:Oper) (s:St) (K:Option Prim->St->Option R):En P C pre ops o s K=(En P C pre ops o s λp D=>some (p,D)).bind λq=>K q.1 q.2:=by
 have I:∀s:St,((bif pre then G_ P C o.op s else λK=>K s) λs=>opK P C (AK s.tmps) o.dst o.op λp=>A6 C o.dst (p.dr pre) s λv D=>put D o.dst v (K (some (p.dr pre))))=
   ((bif pre then G_ P C o.op s else λK=>K s) λs=>opK P C (AK s.tmps) o.dst o.op λp=>A6 C o.dst (p.dr pre) s λv D=>put D o.dst v ((λp D=>some (p,D)) (some (p.dr pre)))).bind λq=>K q.1 q.2:=by
  have J:∀s:St,(opK P C (AK s.tmps) o.dst o.op λp=>A6 C o.dst (p.dr pre) s λv D=>put D o.dst v (K (some (p.dr pre))))=(opK P C (AK s.tmps) o.dst o.op λp=>A6 C o.dst (p.dr pre) s λv D=>put D o.dst v ((λp D=>some (p,D)) (some (p.dr pre)))).bind λq=>K q.1 q.2:=by
   intro s;rw[Of]
   conv=>rhs;rw[Of]
   cases opK P C (AK s.tmps) o.dst o.op some with
   |none=>rfl
   |some p=>
    simp only[ak];rw[Q2z G]
    conv=>rhs;rw[Q2z G]
    cases A6 C o.dst (p.dr pre) s λv D=>some (v,D)with
    |none=>rfl
    |some q=>simp only[ak,JV]
  intro s;cases pre
  ·exact J s
  ·simp only[ai];rw[Qoe]
   conv=>rhs;rw[Qoe]
   cases G_ P C o.op s some with
   |none=>rfl
   |some D=>exact J D
 have E:∀s:St,put s o.dst (.tup []) (K none)=(put s o.dst (.tup []) ((λp D=>some (p,D)) none)).bind λq=>K q.1 q.2:=by
  intro s;simp only[JV,ak]
 unfold En Ny;cases o.guard with
 |none=>exact I s
 |some L=>
  obtain⟨j,want⟩:=L;dsimp only;cases ops[j]? with
  |none=>rfl
  |some M=>
   dsimp only;cases M.dst with
   |none=>rfl
   |some t=>
    dsimp only;split
    ·rename_i g _;cases g
     ·simp only[ao];rw[EE]
      conv=>rhs;rw[EE]
      cases want
      ·exact I _
      ·exact E _
     ·simp only[ai];rw[EE]
      conv=>rhs;rw[EE]
      cases want
      ·exact E _
      ·exact I _
    ·exact E _
    ·rfl
def BD (ops:List Oper) (o:Oper) (tm:List TV):Option Bool:=
 match o.guard with
 |none=>some true
 |some (j,want)=>match ops[j]? with
  |some D=>match D.dst with
   |some t=>match nth .dead tm t with
    | .c (.bool g)=>some (g==want)
    | .tup []=>some false
    |_=>none
   |none=>none
  |none=>none
def BV (ops:List Oper) (o:Oper) (s:St):Option (Option Prim×St):=
 match BD ops o s.tmps with
 |some true=>(opK P C (AK s.tmps) o.dst o.op some).bind λp=>(D9 (C:=C) o.dst (p.dr false) s).bind λq=>some (some (p.dr false),PF q.2 o.dst q.1)
 |some false=>some (none,PF s o.dst (.tup []))
 |none=>none
theorem Qww {tm:List TV} {t:Nat} {v:TV} (h:nth .dead tm t=v) (E:v≠ .dead):setL tm t v=tm:=by
 rw[B3,List.getD]at h;rw[Hh];cases D:tm[t]? with
 |none=>rw[D]at h;simp at h;exact absurd h.symm E
 |some u=>
  rw[D]at h;simp at h;subst h;apply f5;intro i;rw[gh];split
  ·rename_i e;subst e;split
   ·exact D.symm
   ·rename_i G;rw[db (by omega)]
  ·rfl
theorem Zlc (I:Aj P C) {ops:List Oper} {o:Oper} {s:St} {K:Option Prim->St->Option R} {r:R} (h:En P C false ops o s K=some r):
  (∃p E,BV (P:=P) (C:=C) ops o s=some (p,E)/\K p E=some r)\/(∃p E,K (some p) E=some r/\Prim.simple (some p)=false):=by
 have J:∀s1:St,BD ops o s.tmps=some true->s1=s->(opK P C (AK s1.tmps) o.dst o.op λp=>A6 C o.dst (p.dr false) s1 λv E=>put E o.dst v (K (some (p.dr false))))=some r->
   (∃p E,BV (P:=P) (C:=C) ops o s=some (p,E)/\K p E=some r)\/(∃p E,K (some p) E=some r/\Prim.simple (some p)=false):=by
  rintro s1 M rfl h;rw[Of]at h;cases O:opK P C (AK s1.tmps) o.dst o.op some with
  |none=>rw[O]at h;simp at h
  |some p=>
   rw[O]at h;simp only[ak]at h;cases T:Prim.simple (some (p.dr false))
   ·right;obtain⟨v,E,U⟩:=Q9t I h;rw[JV]at U;exact⟨p.dr false,_,U,T⟩
   ·left;rw[Qwr I T]at h;cases S:D9 (C:=C) o.dst (p.dr false) s1 with
    |none=>rw[S]at h;simp at h
    |some q=>
     rw[S]at h;simp only[ak,JV]at h;refine⟨some (p.dr false),_,?_,h⟩;simp only[BV,M,O,ak,S]
 have G:∀s1:St,BD ops o s.tmps=some false->s1=s->put s1 o.dst (.tup []) (K none)=some r->
   (∃p E,BV (P:=P) (C:=C) ops o s=some (p,E)/\K p E=some r)\/(∃p E,K (some p) E=some r/\Prim.simple (some p)=false):=by
  rintro s1 M rfl h;rw[JV]at h;exact .inl ⟨none,_,by simp only[BV,M],h⟩
 unfold En Ny at h;cases N:o.guard with
 |none=>
  rw[N]at h;exact J s (by simp[BD,N]) rfl h
 |some Y=>
  obtain⟨j,want⟩:=Y;rw[N]at h;simp only at h;split at h
  ·rename_i oj V;split at h
   ·rename_i t X;split at h
    ·rename_i g L;have M:BD ops o s.tmps=some (g==want):=by simp only[BD,N,V,X,L]
     have D:∀b,g=b->(⟨setL s.tmps t (.c (.bool b)),s.aB,s.aC⟩:St)=s:=by
      rintro b rfl;rw[Qww L (by simp)]
     cases g
     ·simp only[ao]at h;rw[EE]at h;dsimp only at h;cases want
      ·exact J _ (by rw[M];rfl) (D false rfl) h
      ·exact G _ (by rw[M];rfl) (D false rfl) h
     ·simp only[ai]at h;rw[EE]at h;dsimp only at h;cases want
      ·exact G _ (by rw[M];rfl) (D true rfl) h
      ·exact J _ (by rw[M];rfl) (D true rfl) h
    ·rename_i L;exact G _ (by simp only[BD,N,V,X,L]) rfl h
    ·simp at h
   ·simp at h
  ·simp at h
def GX (P:Program) (C:Cfg) (ops:List Oper) (m:List Nat) (i:Nat) (o:Oper) (s:St):Option (Option Prim×St):=
 if C5 ops m i=true then En P C true ops o s λp D=>some (p,D)else BV (P:=P) (C:=C) ops o s
def O8 (P:Program) (C:Cfg) (ops:List Oper) (m:List Nat):List (Nat×Oper×Option Prim)->St->St->Prop
 |[],s,D=>s=D
 |(i,o,p)::l,s,D=>∃s1,GX P C ops m i o s=some (p,s1)/\O8 P C ops m l s1 D
theorem WN (D:Aj P C) {ops:List Oper} {m:List Nat}:∀(l:List Oper) (i:Nat) (s:St) (K:List (Oper×Option Prim)->St->Option R) (r:R),Ku P C ops m l i s K=some r->
  (∃(ps:List (Nat×Oper×Option Prim)) (E:St),ps.map (·.2.1)=l/\ps.map (·.1)=List.range' i l.length/\O8 P C ops m ps s E/\K (ps.map (·.2)) E=some r)\/
  (∃(acc:List (Oper×Option Prim)) (E:St),K acc E=some r/\∃(j:Nat) (q:Oper×Option Prim),acc[j]? =some q/\(C5 ops m (i+j)||Prim.simple q.2)=false)
 |[],i,s,K,r,h=> .inl ⟨[],s,rfl,rfl,rfl,h⟩
 |o::l,i,s,K,r,h=>by
  simp only[Ku]at h;have G:(∃p s1,GX P C ops m i o s=some (p,s1)/\Ku P C ops m l (i+1) s1 (λrest E=>K ((o,p)::rest) E)=some r)\/
    (∃p s1,Ku P C ops m l (i+1) s1 (λrest E=>K ((o,some p)::rest) E)=some r/\(C5 ops m i||Prim.simple (some p))=false):=by
   cases O:C5 ops m i
   ·rw[O]at h;rcases Zlc D h with⟨p,s1,I,J⟩|⟨p,s1,I,J⟩
    ·exact .inl ⟨p,s1,by unfold GX;rw[ab (by rw[O];simp)];exact I,J⟩
    ·exact .inr ⟨p,s1,I,by simpa using J⟩
   ·rw[O,Q43 D]at h;cases S:En P C true ops o s λp U=>some (p,U)with
    |none=>rw[S]at h;simp at h
    |some q=>
     rw[S]at h;exact .inl ⟨q.1,q.2,by unfold GX;rw[aa O];exact S,h⟩
  rcases G with⟨p,s1,I,J⟩|⟨p,s1,I,J⟩
  ·rcases WN D l (i+1) s1 _ r J with⟨ps,E,L,M,N,T⟩|⟨acc,E,L,j,q,M,N⟩
   ·exact .inl ⟨(i,o,p)::ps,E,by simp[L],by simp[M,List.range'_succ],⟨s1,I,N⟩,T⟩
   ·exact .inr ⟨_,E,L,j+1,q,by simp[M],by rw[show i+(j+1)=i+1+j from by omega];exact N⟩
  ·rcases WN D l (i+1) s1 _ r I with⟨ps,E,L,M,N,T⟩|⟨acc,E,L,j,q,M,N⟩
   ·exact .inr ⟨_,E,T,0,(o,some p),by simp,J⟩
   ·exact .inr ⟨_,E,L,j+1,q,by simp[M],by rw[show i+(j+1)=i+1+j from by omega];exact N⟩
end
end Go.Bm
set_option linter.unusedSimpArgs false
namespace Go.Bm
open Go.RowKit
section
variable {P:Program} {C:Cfg} {w:World} {R:Type} {Z:Base}
theorem Qd {E D:Operand->TV}:∀(l:List Operand),(∀x∈l,E x=D x)->BH E l=BH D l
 |[],_=>rfl
 |x::l,h=>by simp only[BH];rw[h x (by simp),Qd l λy G=>h y (by simp[G])]
theorem Qe2 {E D:Operand->TV}:∀(l:List (Nat×Operand)),(∀p∈l,E p.2=D p.2)->E6 E l=E6 D l
 |[],_=>rfl
 |x::l,h=>by simp only[E6];rw[h x (by simp),Qe2 l λy G=>h y (by simp[G])]
theorem Qzr {E D:Operand->TV} (o:Option Operand) (h:∀x,o=some x->E x=D x):II E o=II D o:=by
 cases o with
 |none=>rfl
 |some x=>simp only[II];rw[h x rfl]
theorem Jb {G D:Operand->TV} {dst:Option Tmp} {o:Op} (h:∀x∈o.operands,G x=D x) (K:Prim->Option R):opK P C G dst o K=opK P C D dst o K:=by
 cases o<;>simp only[Op.operands]at h<;>simp only[opK]
 case move x=>rw[h x (by simp)]
 case assign x=>rw[h x (by simp)]
 case pick c a b=>rw[h c (by simp),h a (by simp),h b (by simp)]
 case box t x=>rw[h x (by simp)]
 case build t parts=>rw[Qe2 parts.toList λp I=>h p.2 (by simp;exact⟨p.1,by simpa using I⟩)]
 case buildSlice t n parts=>rw[Qe2 parts.toList λp I=>h p.2 (by simp;exact⟨p.1,by simpa using I⟩)]
 case makeSlice t a b=>rw[h a (by simp),h b (by simp)]
 case makeFunc U a b=>
  rw[Qd a.toList λx E=>h x (by simp at E⊢;exact .inl E),Qd b.toList λx E=>h x (by simp at E⊢;exact .inr E)]
 case load t a=>rw[h a (by simp)]
 case store t a x=>rw[h a (by simp),h x (by simp)]
 case nilCheck x=>rw[h x (by simp)]
 case binOp op t x y _=>rw[h x (by simp),h y (by simp)]
 case unOp op t x=>rw[h x (by simp)]
 case convert s d x=>rw[h x (by simp)]
 case fieldAddr t x i=>rw[h x (by simp)]
 case field t x i=>rw[h x (by simp)]
 case indexAddr t x J=>rw[h x (by simp),h J (by simp)]
 case index t x J=>rw[h x (by simp),h J (by simp)]
 case slice t x N O mx=>
  rw[h x (by simp),Qzr N λy L=>h y (by simp[L]),Qzr O λy L=>h y (by simp[L])]
 case extract t i=>rw[h t (by simp)]
 case call c=>
  have S:∀t,c.callee= .value (.tmp t)->G (.tmp t)=D (.tmp t):=λt M=>h _ (by simp only[Call.operands,M];exact Array.mem_append.2 (.inl (by simp)));have T:BH G c.args.toList=BH D c.args.toList:=Qd _ λx E=>h x (by simp only[Call.operands];exact Array.mem_append.2 (.inr (by simpa using E)));rw[T];split
  ·rfl
  ·rfl
  ·rename_i t M;rw[S t M]
  ·rfl
theorem Qod {tm:List TV} {d:Nat} {v:TV} {x:Operand} (h:x≠ .tmp d):AK (setL tm d v) x=AK tm x:=by
 cases x with
 |tmp t=>
  have D:d≠t:=λe=>h (by rw[e]);simp only[AK,B3,List.getD,Hh,gh,ab D]
 |_=>rfl
def Cn (tm:List TV) (d:Option Tmp) (v:TV):List TV:=
 match d with
 |none=>tm
 |some t=>setL tm t v
theorem IV (tm:List TV) (bx:List (Nat×Box)) (aC:List (Nat×Row)) (d:Option Tmp) (v:TV):PF ⟨tm,bx,aC⟩ d v=⟨Cn tm d v,bx,aC⟩:=by cases d<;>rfl
theorem LL {tm:List TV} {d e:Option Tmp} (v u:TV) (h:∀t,d=some t->e≠some t):Cn (Cn tm d v) e u=Cn (Cn tm e u) d v:=by
 cases d with
 |none=>rfl
 |some t=>
  cases e with
  |none=>rfl
  |some q=>
   have D:t≠q:=λx=>h t rfl (by rw[x]);simp only[Cn,Hh];exact List.set_comm _ _ D
def CY (P:Program) (C:Cfg) (ops:List Oper) (o:Oper) (tm:List TV) (bx:List (Nat×Box)) (aC:List (Nat×Row)):Option (Option Prim×TV×List (Nat×Box)):=
 match BD ops o tm with
 |some true=>(opK P C (AK tm) o.dst o.op some).bind λp=>(Aq (C:=C) o.dst (p.dr false) bx aC).bind λq=>some (some (p.dr false),q.1,q.2)
 |some false=>some (none, .tup [],bx)
 |none=>none
theorem Q8l {d:Option Tmp} {p:Prim} {bx:List (Nat×Box)} {aC:List (Nat×Row)} (h:Prim.isApp (some p)=true):Aq (C:=C) d p bx aC=none:=by
 cases p<;>simp[Prim.isApp]at h
 rfl
theorem Zup {d:Option Tmp} {p:Prim} {bx:List (Nat×Box)} {aC:List (Nat×Row)} (h:Prim.isMk (some p)=true):Aq (C:=C) d p bx aC=none:=by
 cases p<;>simp[Prim.isMk]at h<;>rfl
theorem Q3v {ops:List Oper} {o:Oper} {tm:List TV} {bx D:List (Nat×Box)} {aC:List (Nat×Row)} {p:Option Prim} {v:TV} (h:CY P C ops o tm bx aC=some (p,v,D)):Prim.isMk p=false:=by
 unfold CY at h;split at h
 ·cases E:opK P C (AK tm) o.dst o.op some with
  |none=>rw[E]at h;simp at h
  |some q=>
   rw[E]at h;simp only[ak]at h;cases G:Prim.isMk (some (q.dr false))with
   |true=>rw[Zup G]at h;simp at h
   |false=>
    cases I:Aq (C:=C) o.dst (q.dr false) bx aC with
    |none=>rw[I]at h;simp at h
    |some z=>rw[I]at h;simp at h;rw[<-h.1];exact G
 ·simp at h;rw[<-h.1];rfl
 ·simp at h
theorem Q5t {ops:List Oper} {o:Oper} {tm:List TV} {bx D:List (Nat×Box)} {aC:List (Nat×Row)} {p:Option Prim} {v:TV} (h:CY P C ops o tm bx aC=some (p,v,D)):Prim.isApp p=false:=by
 unfold CY at h;split at h
 ·cases E:opK P C (AK tm) o.dst o.op some with
  |none=>rw[E]at h;simp at h
  |some q=>
   rw[E]at h;simp only[ak]at h;cases G:Prim.isApp (some (q.dr false))with
   |true=>rw[Q8l G]at h;simp at h
   |false=>
    cases I:Aq (C:=C) o.dst (q.dr false) bx aC with
    |none=>rw[I]at h;simp at h
    |some z=>rw[I]at h;simp at h;rw[<-h.1];exact G
 ·simp at h;rw[<-h.1];rfl
 ·simp at h
theorem LW {ops:List Oper} {o:Oper} {tm:List TV} {bx D:List (Nat×Box)} {aC:List (Nat×Row)} {p:Option Prim} {v:TV} (h:CY P C ops o tm bx aC=some (p,v,D)):
  BV (P:=P) (C:=C) ops o ⟨tm,bx,aC⟩=some (p,⟨Cn tm o.dst v,D,aC⟩):=by
 have E:=Q5t h;have G:=Q3v h;unfold CY at h;unfold BV;dsimp only;cases I:BD ops o tm with
 |none=>rw[I]at h;simp at h
 |some b=>
  cases b
  ·rw[I]at h;simp at h;obtain⟨rfl,rfl,rfl⟩:=h;simp only[IV]
  ·rw[I]at h;dsimp only at h⊢;cases L:opK P C (AK tm) o.dst o.op some with
   |none=>rw[L]at h;simp at h
   |some q=>
    rw[L]at h;simp only[ak]at h⊢;cases J:Aq (C:=C) o.dst (q.dr false) bx aC with
    |none=>rw[J]at h;simp at h
    |some z=>
     rw[J]at h;simp at h;obtain⟨rfl,rfl,rfl⟩:=h;unfold D9;rw[E,G];simp only[ao,J,fe,ak,IV]
theorem Kj {ops:List Oper} {o:Oper} {tm:List TV} {bx:List (Nat×Box)} {aC:List (Nat×Row)} {p:Option Prim} {J:St} (h:BV (P:=P) (C:=C) ops o ⟨tm,bx,aC⟩=some (p,J)) (M:Prim.isApp p=false) (G:Prim.isMk p=false):
  ∃v E,CY P C ops o tm bx aC=some (p,v,E)/\J=⟨Cn tm o.dst v,E,aC⟩:=by
 unfold BV at h;unfold CY;dsimp only at h;cases I:BD ops o tm with
 |none=>rw[I]at h;simp at h
 |some b=>
  cases b
  ·rw[I]at h;simp at h;obtain⟨rfl,rfl⟩:=h;exact⟨_,_,rfl,by rw[IV]⟩
  ·rw[I]at h;dsimp only at h⊢;cases L:opK P C (AK tm) o.dst o.op some with
   |none=>rw[L]at h;simp at h
   |some q=>
    rw[L]at h;simp only[ak]at h⊢;cases D:D9 (C:=C) o.dst (q.dr false) ⟨tm,bx,aC⟩with
    |none=>rw[D]at h;simp at h
    |some z=>
     rw[D]at h;simp at h;obtain⟨rfl,rfl⟩:=h;unfold D9 at D;rw[M,G]at D;simp only[ao,bg]at D;obtain⟨y,N,rfl⟩:=D;rw[N];exact⟨_,_,rfl,by rw[IV]⟩
theorem Qbt {ops:List Oper} {o:Oper} {tm:List TV} {bx:List (Nat×Box)} {aC:List (Nat×Row)} {p:Option Prim} {J:St} (h:BV (P:=P) (C:=C) ops o ⟨tm,bx,aC⟩=some (p,J)) (L:Prim.isApp p=true):
  BD ops o tm=some true/\∃q id v D,opK P C (AK tm) o.dst o.op some=some q/\p=some (q.dr false)/\IB o.dst (q.dr false)=some id/\IL o.dst aC (q.dr false)=some (v,D)/\J=⟨Cn (tm.map (TV.kill id)) o.dst v,bx.map λp=>(p.1,p.2.kill id),D⟩:=by
 unfold BV at h;dsimp only at h;cases G:BD ops o tm with
 |none=>rw[G]at h;simp at h
 |some b=>
  cases b
  ·rw[G]at h;simp at h;obtain⟨rfl,rfl⟩:=h;simp[Prim.isApp]at L
  ·rw[G]at h;refine⟨rfl,?_⟩;dsimp only at h;cases M:opK P C (AK tm) o.dst o.op some with
   |none=>rw[M]at h;simp at h
   |some q=>
    rw[M]at h;simp only[ak]at h;cases E:D9 (C:=C) o.dst (q.dr false) ⟨tm,bx,aC⟩with
    |none=>rw[E]at h;simp at h
    |some z=>
     rw[E]at h;simp at h;obtain⟨rfl,rfl⟩:=h;unfold D9 at E;rw[L]at E;simp only[ai]at E;split at E
     ·rename_i id I;simp only[bg]at E;obtain⟨⟨y1,y2⟩,N,rfl⟩:=E;exact⟨q,id,y1,y2,rfl,rfl,I,N,by unfold TE;rw[IV]⟩
     ·simp at E
theorem Qtb {ops:List Oper} {o:Oper} {tm:List TV} {bx:List (Nat×Box)} {aC D:List (Nat×Row)} {q:Prim} {id:Nat} {v:TV} (E:BD ops o tm=some true) (G:opK P C (AK tm) o.dst o.op some=some q)
  (I:IB o.dst (q.dr false)=some id) (J:IL o.dst aC (q.dr false)=some (v,D)) (L:Prim.isApp (some (q.dr false))=true):
  BV (P:=P) (C:=C) ops o ⟨tm,bx,aC⟩=some (some (q.dr false),⟨Cn (tm.map (TV.kill id)) o.dst v,bx.map λp=>(p.1,p.2.kill id),D⟩):=by
 unfold BV;dsimp only;rw[E,G];simp only[ak];unfold D9;rw[L];simp only[ai,I,J,fe,ak,TE,IV]
theorem QZ {ops:List Oper} {o:Oper} {tm:List TV} {bx:List (Nat×Box)} {aC:List (Nat×Row)} {p:Option Prim} {L:St} (h:BV (P:=P) (C:=C) ops o ⟨tm,bx,aC⟩=some (p,L)) (G:Prim.isMk p=true):
  BD ops o tm=some true/\∃q v D,opK P C (AK tm) o.dst o.op some=some q/\p=some (q.dr false)/\mkD (C:=C) o.dst (q.dr false) aC=some (v,D)/\L=⟨Cn tm o.dst v,bx,D⟩:=by
 unfold BV at h;dsimp only at h;cases I:BD ops o tm with
 |none=>rw[I]at h;simp at h
 |some b=>
  cases b
  ·rw[I]at h;simp at h;obtain⟨rfl,rfl⟩:=h;simp[Prim.isMk]at G
  ·rw[I]at h;refine⟨rfl,?_⟩;dsimp only at h;cases M:opK P C (AK tm) o.dst o.op some with
   |none=>rw[M]at h;simp at h
   |some q=>
    rw[M]at h;simp only[ak]at h;cases E:D9 (C:=C) o.dst (q.dr false) ⟨tm,bx,aC⟩with
    |none=>rw[E]at h;simp at h
    |some z=>
     rw[E]at h;simp at h;obtain⟨rfl,rfl⟩:=h;have J:Prim.isApp (some (q.dr false))=false:=by
      generalize q.dr false=N at G⊢;cases N<;>simp[Prim.isMk]at G<;>rfl
     unfold D9 at E;rw[J,G]at E;simp only[ao,ai,bg]at E;obtain⟨⟨y1,y2⟩,O,rfl⟩:=E;exact⟨q,y1,y2,rfl,rfl,O,by rw[IV]⟩
theorem QL {ops:List Oper} {o:Oper} {tm:List TV} {bx:List (Nat×Box)} {aC D:List (Nat×Row)} {q:Prim} {v:TV} (I:BD ops o tm=some true) (J:opK P C (AK tm) o.dst o.op some=some q)
  (L:mkD (C:=C) o.dst (q.dr false) aC=some (v,D)) (E:Prim.isMk (some (q.dr false))=true):
  BV (P:=P) (C:=C) ops o ⟨tm,bx,aC⟩=some (some (q.dr false),⟨Cn tm o.dst v,bx,D⟩):=by
 have G:Prim.isApp (some (q.dr false))=false:=by
  generalize q.dr false=M at E⊢;cases M<;>simp[Prim.isMk]at E<;>rfl
 unfold BV;dsimp only;rw[I,J];simp only[ak];unfold D9;rw[G,E];simp only[ai,ao,L,fe,ak,IV]
theorem Q9u {id:Nat} {a:AC} (h:a.live=true):a.kill id=a:=by cases a<;>simp[AC.live]at h<;>rfl
theorem Q97 {id:Nat} {a:AC} (h:(a.kill id).live=true):a.kill id=a:=by
 cases a<;>simp only[AC.kill]at h⊢<;>try rfl
 all_goals
  rename_i j b c;cases hb:Nat.beq j id<;>rw[hb]at h
  ·rfl
  ·simp[AC.live]at h
theorem Pe {id:Nat}:∀{l:List AC},Ai AC.live l=true->l.map (AC.kill id)=l
 |[],_=>rfl
 |a::l,h=>by
  rw[As]at h;simp only[ba];rw[Q9u (h a (by simp)),Pe (As.2 λx D=>h x (by simp[D]))]
theorem P9 {id:Nat}:∀{l:List AC},Ai AC.live (l.map (AC.kill id))=true->l.map (AC.kill id)=l
 |[],_=>rfl
 |a::l,h=>by
  rw[As]at h;simp only[ba]at h⊢;rw[Q97 (h _ (by simp)),P9 (As.2 λx D=>h x (by simp[D]))]
theorem RI (id:Nat):∀(tm:List TV) (t:Nat),nth .dead (tm.map (TV.kill id)) t=(nth .dead tm t).kill id
 |[],_=>rfl
 |_::_,0=>rfl
 |_::tm,t+1=>RI id tm t
theorem RO {id:Nat} {tm:List TV} {x:Operand} {g:Bool} {cs:List AC} (h:AK tm x= .v g cs) (D:Ai AC.live cs=true):AK (tm.map (TV.kill id)) x= .v g cs:=by
 cases x<;>try exact h
 simp only[AK]at h⊢;rw[RI,h];simp only[TV.kill];rw[Pe D]
theorem QC {id:Nat} {tm:List TV} {x:Operand} {g:Bool} {cs:List AC} (h:AK (tm.map (TV.kill id)) x= .v g cs) (E:Ai AC.live cs=true):AK tm x= .v g cs:=by
 cases x<;>try exact h
 simp only[AK]at h⊢;rw[RI]at h;cases D:nth TV.dead tm (by assumption)with
 |dead=>rw[D]at h;simp[TV.kill]at h
 |tup ps=>rw[D]at h;simp[TV.kill]at h
 |v I G=>
  rw[D]at h;simp only[TV.kill,TV.v.injEq]at h;obtain⟨rfl,rfl⟩:=h;rw[P9 E]
theorem VT {q:Prim} (h:Prim.isPtr (some (q.dr false))=true):∃k o,q= .val (.v false [.ptr k o]):=by
 cases q<;>simp only[Prim.dr,Prim.isPtr]at h<;>try (simp at h;done)
 case callM f args=>cases hb:Ai TV.plainB args<;>simp[hb]at h
 rename_i v;split at h
 ·rename_i h';simp at h';exact⟨_,_,by rw[h']⟩
 ·simp at h
theorem Qcv {q:Prim} (h:Prim.isLive (some (q.dr false))=true):∃g cs,q= .val (.v g cs)/\Ai AC.live cs=true:=by
 cases q<;>simp only[Prim.dr,Prim.isLive]at h<;>try (simp at h;done)
 case callM f args=>cases hb:Ai TV.plainB args<;>simp[hb]at h
 rename_i v;cases v<;>simp at h
 exact⟨_,_,rfl,h⟩
theorem Zjl {a:AC} (h:a.plain=true):a.live=true:=by cases a<;>simp[AC.plain]at h<;>rfl
theorem P6 {l:List AC} (h:Ai AC.plain l=true):Ai AC.live l=true:=As.2 λx D=>Zjl (As.1 h x D)
theorem Znp {id:Nat}:∀{u:TV},(u.kill id).plainB=true->u.kill id=u
 | .dead,_=>rfl
 | .v g cs,h=>by simp only[TV.kill,TV.plainB]at h⊢;rw[P9 (P6 h)]
 | .tup ps,h=>by
  simp only[TV.kill,TV.plainB]at h⊢;congr 1;induction ps with
  |nil=>rfl
  |cons p ps D=>
   rw[As]at h;simp only[ba]at h⊢;rw[P9 (P6 (h (p.1,p.2.map (AC.kill id)) (by simp))),D (As.2 λx E=>h x (ic _ E))]
theorem Yd {id:Nat}:∀{u:TV},u.plainB=true->u.kill id=u
 | .dead,_=>rfl
 | .v g cs,h=>by simp only[TV.kill,TV.plainB]at h⊢;rw[Pe (P6 h)]
 | .tup ps,h=>by
  simp only[TV.kill,TV.plainB]at h⊢;congr 1;induction ps with
  |nil=>rfl
  |cons p ps D=>
   rw[As]at h;simp only[ba];rw[Pe (P6 (h p (by simp))),D (As.2 λx E=>h x (ic _ E))]
theorem Q6u {id:Nat} {tm:List TV} {x:Operand} {v:TV} (D:v.plainB=true):AK (tm.map (TV.kill id)) x=v↔AK tm x=v:=by
 cases x<;>try exact Iff.rfl
 simp only[AK];rw[RI];exact⟨λh=>by rw[<-h,Znp (by rw[h];exact D)],λh=>by rw[h,Yd D]⟩
theorem Q00 {id:Nat} {tm:List TV}:∀(l:List Operand) {D:List TV},Ai TV.plainB D=true->(BH (AK (tm.map (TV.kill id))) l=D↔BH (AK tm) l=D)
 |[],D,_=>Iff.rfl
 |x::l,[],_=>by simp[BH]
 |x::l,v::D,h=>by
  rw[As]at h;simp only[BH,fh];rw[Q6u (h v (by simp)),Q00 l (As.2 λy E=>h y (by simp[E]))]
theorem Qqr {q:Prim} (h:Prim.isCallP (some (q.dr false))=true):∃f args,q= .call f args/\Ai TV.plainB args=true:=by
 cases q<;>simp only[Prim.dr,Prim.isCallP]at h<;>try (simp at h;done)
 case callM f args=>cases hb:Ai TV.plainB args<;>simp[hb]at h
 exact⟨_,_,rfl,h⟩
theorem Qlc {g:Int->Int->Int} {k:IntKind} {as:List TV} {f:FuncId}:∀{l:List TV} {a:Int},Ed g k a l some≠some (.call f as)
 |[],a,h=>by simp[Ed]at h
 |t::l,a,h=>by
  simp only[Ed]at h;split at h
  ·rename_i k' b;cases hb:kEq k k'<;>rw[hb]at h
   ·simp at h
   ·exact Qlc h
  ·simp at h
theorem Zg5 {b:Builtin} {D:List TypeId} {args as:List TV} {f:FuncId}:H8 P b D args some≠some (.call f as):=by
 intro h;unfold H8 at h
 repeat' split at h
 all_goals first|(simp at h;done)|skip
 all_goals first|(simp only[cond_eq_ite]at h;split at h<;>simp at h;done)|(simp only[cond_eq_ite]at h;repeat' split at h)|skip
 all_goals first|(simp at h;done)|exact Qlc h
theorem Qsp {G:Operand->TV} {dst:Option Tmp} {c:Call} {f:FuncId} {args:List TV}:
  opK P C G dst (.call c) some=some (.call f args)↔c.callee= .value (.func f)/\C.pure f=true/\BH G c.args.toList=args:=by
 simp only[opK];split
 ·rename_i b hb;exact⟨λh=>absurd h Zg5,λh=>by rw[hb]at h;simp at h⟩
 ·rename_i g J;rw[J];cases I:C.pure g
  ·simp only[ao,ap];exact⟨λh=>by simp at h,fun⟨D,E,_⟩=>by simp at D;subst D;rw[I]at E;simp at E⟩
  ·simp only[ai,ap,Prim.call.injEq,Callee.value.injEq,Operand.func.injEq];exact⟨fun⟨D,E⟩=>⟨D,D▸I,E⟩,fun⟨D,_,E⟩=>⟨D,E⟩⟩
 ·rename_i t L;rw[L];constructor
  ·intro h;split at h
   ·rename_i g fs cs _;cases hb:(Ai AC.clOk fs&&Ai AC.clOk cs)<;>rw[hb]at h<;>simp at h
   ·simp at h
  ·intro h;simp at h
 ·rename_i D E M;exact⟨λh=>by simp at h,λh=>absurd h.1 (E f)⟩
theorem Qqf {q:Prim} (h:Prim.isLoad (some (q.dr false))=true):∃g sz key off,q= .load g sz key off:=by
 cases q<;>simp only[Prim.dr,Prim.isLoad]at h<;>try (simp at h;done)
 case callM f args=>cases hb:Ai TV.plainB args<;>simp[hb]at h
 exact⟨_,_,_,_,rfl⟩
theorem Qkq {D:Operand->TV} {dst:Option Tmp} {t:TypeId} {a:Operand} {g:Bool} {sz key off:Nat} (h:opK P C D dst (.load t a) some=some (.load g sz key off)):D a= .v false [.ptr key off]:=by
 simp only[opK]at h
 repeat' split at h
 all_goals first|(simp at h;done)|skip
 rename_i E;simp at h;obtain⟨_,_,rfl,rfl⟩:=h;exact E
theorem Zly {id:Nat} {g:Bool} {sz off:Nat} {cells:List AC}:Cp g sz (cells.map (AC.kill id)) off=(Cp g sz cells off).map (TV.kill id):=by
 unfold Cp;cases g
 ·simp only[ao,eg];cases cells[off]? <;>rfl
 ·simp only[ai,af];cases Nat.ble (off+sz) cells.length
  ·rfl
  ·simp only[ai,fe,TV.agg,TV.kill,Zqy]
theorem Qmj {id:Nat}:∀(bx:List (Nat×Box)) (k:Nat),Ab (bx.map λp=>(p.1,p.2.kill id)) k=(Ab bx k).map (Box.kill id)
 |[],_=>rfl
 |(j,b)::bx,k=>by
  simp only[ba,Ab];cases Nat.beq j k
  ·exact Qmj bx k
  ·rfl
theorem Qn0 {id:Nat} {tm:List TV} {dst:Option Tmp} {o:Op} {q:Prim} (E:Prim.still o (some (q.dr false))=true):
  opK P C (AK (tm.map (TV.kill id))) dst o some=some q↔opK P C (AK tm) dst o some=some q:=by
 cases o<;>simp[Prim.still]at E
 case call c=>
  obtain⟨f,args,rfl,M⟩:=Qqr E;rw[Qsp,Qsp,Q00 _ M]
 case build t parts=>
  have key:∀x∈(Op.build t parts).operands,AK (tm.map (TV.kill id)) x=AK tm x:=by
   intro x L;simp only[Op.operands]at L;simp at L;obtain⟨a,N⟩:=L;have:=As.1 E.1 (a,x) (by simpa using N);cases x<;>simp[Q0k]at this
   rfl
  rw[Jb key]
 case load t a=>
  obtain⟨g,sz,key,off,rfl⟩:=Qqf E;have I:Ai AC.live [AC.ptr key off]=true:=rfl;constructor
  ·intro h;have e:=Qkq h;have e2:=QC e I;rw[<-h];refine Jb (λy D=> ?_) some;simp only[Op.operands]at D;simp at D;subst D;rw[e,e2]
  ·intro h;have e:=Qkq h;have e2:=RO (id:=id) e I;rw[<-h];refine Jb (λy D=> ?_) some;simp only[Op.operands]at D;simp at D;subst D;rw[e,e2]
 case move x=>
  obtain⟨g,cs,rfl,E⟩:=Qcv E;simp only[opK,ap,Prim.val.injEq];exact⟨λh=>QC h E,λh=>RO h E⟩
 case nilCheck x=>
  obtain⟨k,o,rfl⟩:=VT E;have I:Ai AC.live [AC.ptr k o]=true:=rfl;have key:∀G:Operand->TV,opK P C G dst (.nilCheck x) some=some (.val (.v false [.ptr k o]))↔G x= .v false [.ptr k o]:=by
   intro G;simp only[opK];split
   ·rename_i k' J h;rw[h];simp[TV.c]
   ·rename_i h;rw[h];simp[TV.c]
   ·rename_i h;rw[h];simp[TV.c]
   ·rename_i O S T;constructor
    ·intro h;simp at h
    ·intro h;exact(O _ _ h).elim
  rw[key,key];exact⟨λh=>QC h I,λh=>RO h I⟩
 case fieldAddr t x i=>
  obtain⟨k,o,rfl⟩:=VT E;have key:∀G:Operand->TV,opK P C G dst (.fieldAddr t x i) some=some (.val (.v false [.ptr k o]))->∃k' J,G x= .v false [.ptr k' J]:=by
   intro G h;simp only[opK]at h
   repeat' split at h
   all_goals first|(simp at h;done)|(simp[TV.c]at h;done)|exact⟨_,_,by assumption⟩
  constructor
  ·intro h;obtain⟨k',J,e⟩:=key _ h;have e2:=QC e rfl;rw[<-h];refine Jb (λy D=> ?_) some;simp only[Op.operands]at D;simp at D;subst D;rw[e,e2]
  ·intro h;obtain⟨k',J,e⟩:=key _ h;have e2:=RO (id:=id) e rfl;rw[<-h];refine Jb (λy D=> ?_) some;simp only[Op.operands]at D;simp at D;subst D;rw[e,e2]
theorem Qqu {id:Nat} {tm:List TV} {d:Option Tmp} {v:TV}:(Cn tm d v).map (TV.kill id)=Cn (tm.map (TV.kill id)) d (v.kill id):=by
 cases d with
 |none=>rfl
 |some t=>simp only[Cn,Hh,List.map_set]
theorem Og {ops:Array Oper} {o:Oper} {tm:List TV} {d:Option Tmp} {v:TV} (h:∀t,d=some t->t∉o.looksAt ops):BD ops.toList o (Cn tm d v)=BD ops.toList o tm:=by
 cases d with
 |none=>rfl
 |some t=>
  have I:=h t rfl;unfold BD;cases J:o.guard with
  |none=>rfl
  |some L=>
   obtain⟨j,want⟩:=L;dsimp only;cases M:ops.toList[j]? with
   |none=>rfl
   |some G=>
    dsimp only;cases N:G.dst with
    |none=>rfl
    |some q=>
     dsimp only;have D:ops[j]? =some G:=by simpa using M
     have E:t≠q:=by
      rintro rfl;exact I (by simp[Oper.looksAt,J,D,N])
     have:nth .dead (Cn tm (some t) v) q=nth .dead tm q:=by
      simp only[Cn,B3,List.getD,Hh,gh,ab E]
     rw[this]
theorem QN {ops:Array Oper} {o:Oper} {tm:List TV} {bx:List (Nat×Box)} {aC:List (Nat×Row)} {d:Option Tmp} {v:TV} (h:∀t,d=some t->t∉o.looksAt ops):
  CY P C ops.toList o (Cn tm d v) bx aC=CY P C ops.toList o tm bx aC:=by
 unfold CY;rw[Og h];cases d with
 |none=>rfl
 |some t=>
  have D:=h t rfl;rw [show opK P C (AK (Cn tm (some t) v)) o.dst o.op some = opK P C (AK tm) o.dst o.op some from Jb (λx E => Qod (by
   rintro rfl;exact D (List.mem_append_left _ (List.mem_filterMap.2 ⟨.tmp t,by simpa using E,rfl⟩)))) some]
theorem H9 {a b:Nat} (h:a≠b):Nat.beq a b=false:=It h
theorem Su {α:Type}:∀(l:List (Nat×α)) (k j:Nat) (x y:α),k≠j->upd (upd l k x) j y=upd (upd l j y) k x
 |[],_,_,_,_,_=>rfl
 |(i,b)::l,k,j,x,y,h=>by
  by_cases D:i=k
  ·subst D;simp only[upd,gz,ai,H9 h,ao]
  ·by_cases E:i=j
   ·subst E;simp only[upd,gz,ai,H9 D,ao]
   ·simp only[upd,H9 D,H9 E,ao];rw[Su l k j x y h]
theorem FT {a b:Nat} (h:a<b):Nat.blt a b=true:=by simpa using h
theorem FB {a b:Nat} (h: ¬a<b):Nat.blt a b=false:=by
 cases hb:Nat.blt a b
 ·rfl
 ·simp at hb;omega
theorem WB {α:Type}:∀(l:List (Nat×α)) (k j:Nat) (x y:α),k≠j->ins (ins l k x) j y=ins (ins l j y) k x
 |[],k,j,x,y,h=>by
  by_cases D:j<k
  ·simp only[ins,FT D,ai,FB (show¬k<j by omega),ao]
  ·simp only[ins,FB D,ao,FT (show k<j by omega),ai]
 |(i,b)::l,k,j,x,y,h=>by
  by_cases D:k<i<;>by_cases E:j<i
  ·by_cases G:j<k
   ·simp only[ins,FT D,FT E,FT G,FB (show¬k<j by omega),ai,ao]
   ·simp only[ins,FT D,FT E,FB G,FT (show k<j by omega),ai,ao]
  ·simp only[ins,FT D,FB E,FB (show¬j<k by omega),ai,ao]
  ·simp only[ins,FB D,FT E,FB (show¬k<j by omega),ai,ao]
  ·simp only[ins,FB D,FB E,ao];rw[WB l k j x y h]
theorem P2 {α:Type}:∀(l:List (Nat×α)) (k j:Nat) (x y:α),k≠j->upd (ins l k x) j y=ins (upd l j y) k x
 |[],k,j,x,y,h=>by simp only[ins,upd,H9 h,ao]
 |(i,b)::l,k,j,x,y,h=>by
  by_cases D:k<i<;>by_cases E:i=j
  ·subst E;simp only[ins,upd,FT D,H9 h,gz,ai,ao]
  ·simp only[ins,upd,FT D,H9 h,H9 E,ai,ao]
  ·subst E;simp only[ins,upd,FB D,gz,ai,ao]
  ·simp only[ins,upd,FB D,H9 E,ao];rw[P2 l k j x y h]
theorem HS {d:Option Tmp} {f:FuncId} {args:List TV} {bx D:List (Nat×Box)} {aC:List (Nat×Row)} {v:TV} (h:Aq (C:=C) d (.call f args) bx aC=some (v,D)):
  D=bx/\∀(L:Option Tmp) (E:List (Nat×Box)),Aq (C:=C) L (.call f args) E aC=some (v,E):=by
 simp only[Aq]at h⊢;cases G:C.spec f with
 |none=>rw[G]at h;simp at h
 |some g=>
  rw[G]at h;dsimp only at h⊢;cases I:Ep aC args with
  |none=>rw[I]at h;simp at h
  |some l=>
   rw[I]at h;dsimp only at h⊢;cases J:g (TV×Mem) l ⟨[],[]⟩ (λv m=>some (v,m))with
   |none=>rw[J]at h;simp at h
   |some q=>
    rw[J]at h;obtain⟨u,⟨M,N⟩⟩:=q;cases M with
    |cons _ _=>simp at h
    |nil=>
     cases N with
     |cons _ _=>simp at h
     |nil=>
      dsimp only at h⊢;split at h
      ·rename_i O;simp at h;obtain⟨rfl,rfl⟩:=h;refine⟨rfl,λ_ _=> ?_⟩;rw[aa O]
      ·simp at h
theorem Qnt {aC rows':List (Nat×Row)}:∀{args:List TV},Ai TV.plainB args=true->Ep aC args=Ep rows' args:=by
 have I:∀{l:List AC},Ai AC.plain l=true->DJ aC l=DJ rows' l:=by
  intro l;induction l with
  |nil=>intro _;rfl
  |cons a l D=>
   intro h;rw[As]at h;simp only[DJ];rw[D (As.2 λx E=>h x (by simp[E]))];have G:=h a (by simp);cases a<;>simp[AC.plain]at G<;>rfl
 intro args;induction args with
 |nil=>intro _;rfl
 |cons a l D=>
  intro h;rw[As]at h;simp only[Ep];rw[D (As.2 λx E=>h x (by simp[E]))];have G:=h a (by simp);have:a.res aC=a.res rows':=by
   cases a with
   |dead=>rfl
   |tup ps=>rfl
   |v g cs=>simp only[TV.res];rw[I G]
  rw[this]
theorem Qnv {d:Option Tmp} {f:FuncId} {args:List TV} {bx D:List (Nat×Box)} {aC:List (Nat×Row)} {v:TV} (h:Aq (C:=C) d (.call f args) bx aC=some (v,D)):v.plainB=true:=by
 simp only[Aq]at h
 repeat' split at h
 all_goals first|(simp at h;done)|skip
 rename_i E;simp at h;obtain⟨rfl,rfl⟩:=h;rw[al]at E;exact E.2
def Qab (C:Cfg) (id:Nat) (d:Option Tmp) (bx:List (Nat×Box)) (q:Prim):Prop:=
  (∀{v E aC},Aq (C:=C) d (q.dr false) bx aC=some (v,E)->E=bx/\∀D,Aq (C:=C) d (q.dr false) (bx.map λp=>(p.1,p.2.kill id)) D=some (v.kill id,bx.map λp=>(p.1,p.2.kill id)))/\
  ∀{v E aC},Aq (C:=C) d (q.dr false) (bx.map λp=>(p.1,p.2.kill id)) aC=some (v,E)->E=(bx.map λp=>(p.1,p.2.kill id))/\∃u,u.kill id=v/\∀D,Aq (C:=C) d (q.dr false) bx D=some (u,bx)
theorem Qua {id:Nat} {o:Op} {q:Prim} {d:Option Tmp} {bx:List (Nat×Box)} (G:Prim.still o (some (q.dr false))=true):Qab C id d bx q:=by
 have J:∀g cs,q= .val (.v g cs)->Ai AC.live cs=true->Qab C id d bx q:=by
  rintro g cs rfl I;have e:(TV.v g cs).kill id= .v g cs:=by simp only[TV.kill];rw[Pe I]
  refine⟨fun{v D aC} h=> ?_,fun{v D aC} h=> ?_⟩
  ·simp only[Prim.dr,Aq,ap,bt]at h;obtain⟨rfl,rfl⟩:=h;exact⟨rfl,λ_=>by rw[e];rfl⟩
  ·simp only[Prim.dr,Aq,ap,bt]at h;obtain⟨rfl,rfl⟩:=h;exact⟨rfl,_,e,λ_=>rfl⟩
 cases o<;>simp[Prim.still]at G
 case call c=>
  obtain⟨f,args,rfl,M⟩:=Qqr G;refine⟨fun{v D aC} h=> ?_,fun{v D aC} h=> ?_⟩
  ·obtain⟨rfl,L⟩:=HS h;refine⟨rfl,λE=> ?_⟩;rw[Yd (Qnv h)];have:=L d (D.map λp=>(p.1,p.2.kill id));simp only[Prim.dr,Aq]at this⊢;rw[Qnt (aC:=E) (rows':=aC) M];exact this
  ·obtain⟨rfl,L⟩:=HS h;refine⟨rfl,v,Yd (Qnv h),λE=> ?_⟩;have:=L d bx;simp only[Prim.dr,Aq]at this⊢;rw[Qnt (aC:=E) (rows':=aC) M];exact this
 case load t a=>
  obtain⟨g,sz,key,off,rfl⟩:=Qqf G;simp only[Qab,Prim.dr,Aq,Qmj];cases Ab bx key with
  |none=>exact⟨fun{v D aC} h=>by simp at h,fun{v D aC} h=>by simp at h⟩
  |some b=>
   simp only[fe,Box.kill,Zly];cases Cp g sz b.cells off with
   |none=>exact⟨fun{v D aC} h=>by simp at h,fun{v D aC} h=>by simp at h⟩
   |some u=>
    refine⟨fun{v D aC} h=> ?_,fun{v D aC} h=> ?_⟩
    ·simp at h;obtain⟨rfl,rfl⟩:=h;exact⟨rfl,λ_=>rfl⟩
    ·simp at h;obtain⟨rfl,rfl⟩:=h;exact⟨rfl,u,rfl,λ_=>rfl⟩
 case move x=>obtain⟨g,cs,rfl,I⟩:=Qcv G;exact J _ _ rfl I
 case build t parts=>obtain⟨g,cs,rfl,I⟩:=Qcv G.2;exact J _ _ rfl I
 all_goals
  obtain⟨k,o,rfl⟩:=VT G;exact J _ _ rfl rfl
theorem LX {d:Option Tmp} {g:Bool} {sz id idx sub:Nat} {bx D:List (Nat×Box)} {aC:List (Nat×Row)} {v:TV} (h:Aq (C:=C) d (.rload g sz id idx sub) bx aC=some (v,D)):
  D=bx/\∀(E:Option Tmp) (b':List (Nat×Box)),Aq (C:=C) E (.rload g sz id idx sub) b' aC=some (v,b'):=by
 simp only[Aq]at h⊢
 repeat' split at h
 all_goals first|(simp at h;done)|skip
 simp at h;obtain⟨rfl,rfl⟩:=h;exact⟨rfl,λ_ _=>rfl⟩
theorem Qti {n k:Nat}:∀{l:List Nat},k∈Oe n l↔k=n\/k∈l
 |[]=>by simp[Oe]
 |m::l=>by
  simp only[Oe];cases hb:Nat.beq m n
  ·simp only[ao,az,Qti (l:=l)];constructor
   ·rintro(h|h|h)<;>simp[h]
   ·rintro(h|h|h)<;>simp[h]
  ·have:=ac hb;subst this;simp only[ai,az];constructor
   ·rintro(h|h)<;>simp[h]
   ·rintro(h|h|h)<;>simp[h]
theorem Qsy {k:Nat}:∀{ns l:List Nat},k∈AZ ns l↔k∈ns\/k∈l
 |[],l=>by simp[AZ]
 |n::ns,l=>by
  simp only[AZ,Qsy (ns:=ns),Qti,az];constructor
  ·rintro(h|h|h)<;>simp[h]
  ·rintro((h|h)|h)<;>simp[h]
theorem Rh {α β:Type} {g:α->List β} {x:β}:∀{l:List α},x∈cat g l↔∃a∈l,x∈g a
 |[]=>by simp[cat]
 |a::l=>by simp[cat,Rh (l:=l)]
theorem QF {k:Nat}:∀{l:List AC},k∈AC.keys.keysL l->∃o,AC.ptr k o∈l
 |[],h=>by simp[AC.keys.keysL]at h
 |a::l,h=>by
  cases a
  case ptr j o=>
   simp only[AC.keys.keysL,az]at h;rcases h with rfl|h
   ·exact⟨o,by simp⟩
   ·obtain⟨D,h'⟩:=QF h;exact⟨D,by simp[h']⟩
  all_goals
   simp only[AC.keys.keysL]at h;obtain⟨D,h'⟩:=QF h;exact⟨D,by simp[h']⟩
theorem Zmu {bx:List (Nat×Box)} {aC:List (Nat×Row)} {args:List TV} (h:∀v∈args,TV.wf bx aC v) {k:Nat} (L:k∈AZ (cat AC.keys (cat TV.cellsOf args)) []):∃b,Ab bx k=some b:=by
 simp only[Qsy,List.not_mem_nil,or_false]at L;obtain⟨a,N,D⟩:=Rh.1 L;obtain⟨v,O,E⟩:=Rh.1 N;have M:=h v O;have G:AC.wf bx aC a:=by
  cases v with
  |dead=>simp[TV.cellsOf]at E
  |v g cs=>exact M a E
  |tup ps=>
   simp only[TV.cellsOf]at E;obtain⟨p,S,I⟩:=Rh.1 E;exact M p S a I
 cases a
 case ptr j o=>simp[AC.keys]at D;subst D;exact G
 case bsl j o=>simp[AC.keys]at D;subst D;exact G
 case clo f fs cs=>
  simp only[AC.keys,co]at D;rcases D with D|D
  ·obtain⟨o,J⟩:=QF D;exact G.1 _ J
  ·obtain⟨o,J⟩:=QF D;exact G.2 _ J
 all_goals simp[AC.keys]at D
theorem Qz6 {bx D:List (Nat×Box)} {E ri:Nat->Nat}:∀(keys:List Nat) (b:Nat),(∀k∈keys,Ab D k=Ab bx k)->CK D E ri b keys=CK bx E ri b keys
 |[],_,_=>rfl
 |k::keys,b,h=>by
  simp only[CK];rw[h k (by simp),Qz6 keys (b+1) λj G=>h j (by simp[G])]
theorem Qwi {α:Type} {p q:α->Bool}:∀{l:List α},(∀x∈l,p x=q x)->Ai p l=Ai q l
 |[],_=>rfl
 |a::l,h=>by simp only[Ai];rw[h a (by simp),Qwi (l:=l) λx D=>h x (by simp[D])]
theorem JS {keys:List Nat}:∀(m:List (Nat×Box)) (l:List (Nat×Box)) (n:Nat),(∀p∈m,n≠nth 0 keys (p.1-base))->Ab (Cb keys m l) n=Ab l n
 |[],_,_,_=>rfl
 |(j,c)::m,l,n,h=>by
  simp only[Cb];rw[JS m _ n λp D=>h p (by simp[D])];exact C4 _ _ _ _ (h (j,c) (by simp))
theorem ZN {keys:List Nat}:∀(m:List (Nat×Box)) (l:List (Nat×Box)) (n:Nat) (x:Box),(∀p∈m,n≠nth 0 keys (p.1-base))->Cb keys m (upd l n x)=upd (Cb keys m l) n x
 |[],_,_,_,_=>rfl
 |(j,c)::m,l,n,x,h=>by
  simp only[Cb];rw[Su _ _ _ _ _ (h (j,c) (by simp)),ZN m _ n x λp D=>h p (by simp[D])]
theorem Xp {keys:List Nat}:∀(m:List (Nat×Box)) (l:List (Nat×Box)) (n:Nat) (x:Box),(∀p∈m,n≠nth 0 keys (p.1-base))->Cb keys m (ins l n x)=ins (Cb keys m l) n x
 |[],_,_,_,_=>rfl
 |(j,c)::m,l,n,x,h=>by
  simp only[Cb];rw[P2 _ _ _ _ _ (h (j,c) (by simp)),Xp m _ n x λp D=>h p (by simp[D])]
theorem Rv {d:Option Tmp} {f:FuncId} {args:List TV} {bx I:List (Nat×Box)} {aC:List (Nat×Row)} {v:TV} (h:Aq (C:=C) d (.callD f args) bx aC=some (v,I)):
  ∃D,I=Cb (AZ (cat AC.keys (cat TV.cellsOf args)) []) D bx/\(∀p∈D,nth 0 (AZ (cat AC.keys (cat TV.cellsOf args)) []) (p.1-base)∈AZ (cat AC.keys (cat TV.cellsOf args)) [])/\v.plainB=true/\
   ∀(M:Option Tmp) (G:List (Nat×Box)),(∀k∈AZ (cat AC.keys (cat TV.cellsOf args)) [],Ab G k=Ab bx k)->Aq (C:=C) M (.callD f args) G aC=some (v,Cb (AZ (cat AC.keys (cat TV.cellsOf args)) []) D G):=by
 simp only[Aq]at h⊢;generalize AZ (cat AC.keys (cat TV.cellsOf args)) []=keys at h⊢;cases N:C.spec f with
 |none=>rw[N]at h;simp at h
 |some g=>
  rw[N]at h;dsimp only at h⊢;split at h
  ·rename_i S;split at h
   ·rename_i Y J;split at h
    ·rename_i v' D T;split at h
     ·rename_i L;simp only[ap,bt]at h;obtain⟨rfl,rfl⟩:=h;have E:=L;simp only[al]at E;refine⟨D,rfl,λp U=> ?_,E.2,λM G O=> ?_⟩
      ·obtain⟨b,hb⟩:=QQ (As.1 E.1.1.1.2 p U);obtain⟨i,V,e⟩:=(Ix J).2 _ _ hb;rw[e,show base+i-base=i from by omega];exact EH V
      ·rw[Qwi (q:=λk=>Ai AC.calm (DM bx k)) (λk X=>by unfold DM;rw[O k X]),Qz6 keys base O,J,aa S];dsimp only;rw[T];dsimp only;rw[aa L]
     ·simp at h
    ·simp at h
   ·simp at h
  ·simp at h
theorem OR {keys:List Nat}:∀(m:List (Nat×Box)) (l:List (Nat×Box)) {n:Nat} {b:Box},Ab l n=some b->∃b',Ab (Cb keys m l) n=some b'
 |[],_,_,b,h=>⟨b,h⟩
 |(j,c)::m,l,n,b,h=>by
  simp only[Cb];by_cases e:n=nth 0 keys (j-base)
  ·subst e;exact OR m _ (DU _ _ _ _ h)
  ·exact OR m _ (b:=b) (by rw[C4 _ _ _ _ e];exact h)
theorem Zqg {d:Option Tmp} {f:FuncId} {args:List TV} {bx D:List (Nat×Box)} {aC:List (Nat×Row)} {v:TV} (h:Aq (C:=C) d (.callD f args) bx aC=some (v,D)):
  ∀k∈AZ (cat AC.keys (cat TV.cellsOf args)) [],∃b,Ab bx k=some b:=by
 simp only[Aq]at h;generalize AZ (cat AC.keys (cat TV.cellsOf args)) []=keys at h⊢;split at h
 ·split at h
  ·split at h
   ·rename_i I E;intro k G;obtain⟨x,q,_⟩:=(Ix E).1 (pos keys k) (CO G).1;rw[(CO G).2]at q;exact⟨x,q⟩
   ·simp at h
  ·simp at h
 ·simp at h
theorem Ql2 {α:Type}:∀(l:List (Nat×α)) (k:Nat) (x:α),Ab l k=some x->upd l k x=l
 |[],_,_,_=>rfl
 |(j,b)::l,k,x,h=>by
  simp only[Ab,upd]at h⊢;cases D:Nat.beq j k
  ·rw[D]at h;simp only[ao]at h⊢;rw[Ql2 l k x h]
  ·rw[D]at h;simp only[ai,ap]at h⊢;rw[h,ac D]
theorem Qr2 {keys:List Nat} {bx:List (Nat×Box)} {rk ri:Nat->Nat}:∀(ks pre:List Nat) (E:List (Nat×Box)),keys=pre++ks->CK bx rk ri (base+pre.length) ks=some E->(∀k∈ks,Ai AC.calm (DM bx k)=true)->Cb keys E bx=bx
 |[],_,E,_,h,_=>by simp[CK]at h;subst h;rfl
 |k::ks,pre,E,G,h,I=>by
  simp only[CK]at h;split at h
  ·rename_i x J;split at h
   ·rename_i l L;simp only[ap]at h;subst h;simp only[Cb];have M:nth 0 keys (base+pre.length-base)=k:=by
     rw[show base+pre.length-base=pre.length from by omega,B3,G];simp
    have D:=I k (by simp);unfold DM at D;rw[J]at D;rw[M,OY D,Ql2 bx k _ J];exact Qr2 (rk:=rk) (ri:=ri) ks (pre++[k]) l (by rw[G];simp) (by rw[<-L];simp[de]) (λj N=>I j (by simp[N]))
   ·simp at h
  ·simp at h
theorem P_ (D:Aj P C) {d:Option Tmp} {f:FuncId} (E:C.ro f=true) {args:List TV} {bx bx1:List (Nat×Box)} {aC:List (Nat×Row)} {v:TV} (h:Aq (C:=C) d (.callD f args) bx aC=some (v,bx1)):bx1=bx:=by
 simp only[Aq]at h;generalize AZ (cat AC.keys (cat TV.cellsOf args)) []=keys at h;cases G:C.spec f with
 |none=>rw[G]at h;simp at h
 |some g=>
  rw[G]at h;dsimp only at h;split at h
  ·rename_i J;simp only[al]at J;split at h
   ·rename_i L I;split at h
    ·rename_i S M N;split at h
     ·simp only[ap,bt]at h;have e:=D.2.1 f g G E _ _ _ _ N;simp only[Mem.mk.injEq,i6]at e;rw[<-h.2,e];exact Qr2 keys [] L rfl (by simpa using I) (λk O=>As.1 J.1.2 k O)
     ·simp at h
    ·simp at h
   ·simp at h
  ·simp at h
theorem Zbw (U:Aj P C) {di V:Option Tmp} {pi pj:Prim} {bx bx1 J:List (Nat×Box)} {aC:List (Nat×Row)} {vi vj:TV} (I:Aq (C:=C) di pi bx aC=some (vi,bx1)) (D:Aq (C:=C) V pj bx1 aC=some (vj,J))
  (hm:Prim.meet C.ro (some pi) (some pj)=false) (hd:∀t,di=some t->V≠some t) (a8:Prim.wf bx aC pj):
  ∃a7,Aq (C:=C) V pj bx aC=some (vj,a7)/\Aq (C:=C) di pi a7 aC=some (vi,J):=by
 have a9:∀{a b:Nat},Nat.beq a b=false->a≠b:=λh e=>by subst e;simp at h
 cases pi<;>simp only[Aq]at I<;>try (simp at I;done)
 case val v=>simp at I;obtain⟨rfl,rfl⟩:=I;exact⟨J,D,rfl⟩
 case newView e ks l=>simp at I;obtain⟨rfl,rfl⟩:=I;exact⟨J,D,rfl⟩
 case rload g sz id idx sub=>
  obtain⟨rfl,X⟩:=LX (C:=C) (d:=di) (by simpa only[Aq]using I);exact⟨J,D,X _ _⟩
 case callD f args=>
  obtain⟨S,rfl,Y,_,X⟩:=Rv (C:=C) (d:=di) (f:=f) (args:=args) (aC:=aC) (by simpa only[Aq]using I);have E:=X di bx λ_ _=>rfl;have a2:∀k∈AZ (cat AC.keys (cat TV.cellsOf args)) [],∃b,Ab bx k=some b:=Zqg (C:=C) (d:=di) (f:=f) (v:=vi) (aC:=aC) (by simpa only[Aq]using E);cases pj<;>simp only[Aq]at D<;>try (simp at D;done)
  case val v=>simp at D;obtain⟨rfl,rfl⟩:=D;exact⟨bx,rfl,E⟩
  case newView e ks l=>simp at D;obtain⟨rfl,rfl⟩:=D;exact⟨bx,rfl,E⟩
  case rload g sz id idx sub=>
   obtain⟨rfl,b0⟩:=LX (C:=C) (d:=V) (by simpa only[Aq]using D);exact⟨bx,b0 _ _,E⟩
  case call f' a3=>
   obtain⟨rfl,b0⟩:=HS (d:=V) D;exact⟨bx,b0 _ _,E⟩
  case load g sz k' o'=>
   cases a4:C.ro f
   case true=>
    have e1:=P_ U (d:=di) a4 (aC:=aC) E;rw[e1]at D E;have e2:J=bx:=by
     repeat' split at D
     all_goals first|(simp at D;done)|(simp at D;exact D.2.symm)
    subst e2;exact⟨J,by simp only[Aq];exact D,E⟩
   have T:k'∉AZ (cat AC.keys (cat TV.cellsOf args)) []:=λe=>by
    have:=Eb.2 e;simp only[Prim.meet,a4,Bool.not_false,Bool.true_and]at hm;rw[hm]at this;cases this
   have L:∀p∈S,k'≠nth 0 (AZ (cat AC.keys (cat TV.cellsOf args)) []) (p.1-base):=λp hp e=>T (by rw[e];exact Y p hp);rw[JS _ _ _ L]at D;refine⟨bx,?_,?_⟩
   ·simp only[Aq]
    repeat' split at D
    all_goals first|(simp at D;done)|skip
    rename_i q1 _ _ q2;simp at D;obtain⟨rfl,_⟩:=D;simp only[q1,q2]
   ·have:J=Cb (AZ (cat AC.keys (cat TV.cellsOf args)) []) S bx:=by
     repeat' split at D
     all_goals first|(simp at D;done)|(simp at D;exact D.2.symm)
    rw[this];exact E
  case store k' o' O=>
   have T:k'∉AZ (cat AC.keys (cat TV.cellsOf args)) []:=λe=>by
    have:=Eb.2 e;simp only[Prim.meet]at hm;rw[hm]at this;cases this
   have L:∀p∈S,k'≠nth 0 (AZ (cat AC.keys (cat TV.cellsOf args)) []) (p.1-base):=λp hp e=>T (by rw[e];exact Y p hp);rw[JS _ _ _ L]at D;cases h2:Ab bx k' with
   |none=>rw[h2]at D;simp at D
   |some b'=>
    rw[h2]at D;dsimp only at D;split at D
    ·rename_i a0;simp at D;obtain⟨rfl,rfl⟩:=D;refine⟨upd bx k' ⟨b'.ty,splice b'.cells o' O⟩,by simp only[Aq,h2,a0,dc],?_⟩;rw[X di _ λk a1=>C4 _ _ _ _ (by rintro rfl;exact T a1),ZN _ _ _ _ L]
    ·simp at D
  case new ty O=>
   split at D
   ·rename_i d;split at D
    ·simp at D
    ·rename_i hn;simp at D;obtain⟨rfl,rfl⟩:=D;have L:∀p∈S,d≠nth 0 (AZ (cat AC.keys (cat TV.cellsOf args)) []) (p.1-base):=λp hp e=>by
      have a6:∃b,Ab bx d=some b:=a2 d (by rw[e];exact Y p hp);obtain⟨b,hb⟩:=a6;have:∃b',Ab (Cb (AZ (cat AC.keys (cat TV.cellsOf args)) []) S bx) d=some b':=OR _ _ hb;obtain⟨b',M⟩:=this;rw[hn]at M;cases M
     have a5:d∉AZ (cat AC.keys (cat TV.cellsOf args)) []:=λe=>by
      obtain⟨b,hb⟩:=a2 d e;obtain⟨b',M⟩:=OR (keys:=AZ (cat AC.keys (cat TV.cellsOf args)) []) S bx hb;rw[hn]at M;cases M
     rw[JS _ _ _ L]at hn;refine⟨ins bx d ⟨ty,O⟩,by simp only[Aq,hn],?_⟩;rw[X di _ λk a1=>C7 _ _ _ _ (by rintro rfl;exact a5 a1),Xp _ _ _ _ L]
   ·simp at D
  case callD f' a3=>
   simp only[Prim.meet,Bool.not_eq_false',al]at hm;have e1:=P_ U (d:=di) hm.1 (aC:=aC) E;rw[e1]at D E;have e2:=P_ U (d:=V) hm.2 (aC:=aC) (f:=f') (args:=a3) (v:=vj) (bx1:=J) (by simpa only[Aq]using D);subst e2;exact⟨J,by simpa only[Aq]using D,E⟩
 case call f args=>
  obtain⟨rfl,X⟩:=HS (d:=di) I;exact⟨J,D,X _ _⟩
 case load g sz key off=>
  cases G:Ab bx key with
  |none=>rw[G]at I;simp at I
  |some b=>
   rw[G]at I;dsimp only at I;cases h2:Cp g sz b.cells off with
   |none=>rw[h2]at I;simp at I
   |some v=>
    rw[h2]at I;simp at I;obtain⟨rfl,rfl⟩:=I;refine⟨J,D,?_⟩;have hl:Ab J key=some b:=by
     cases pj<;>simp only[Aq]at D<;>try (simp at D;done)
     case val=>simp at D;rw[<-D.2];exact G
     case newView=>simp at D;rw[<-D.2];exact G
     case rload=>
      obtain⟨rfl,_⟩:=LX (C:=C) (d:=V) (by simpa only[Aq]using D);exact G
     case callD f args=>
      cases a4:C.ro f
      case true=>
       rw[P_ U (d:=V) a4 (aC:=aC) (args:=args) (v:=vj) (bx1:=J) (by simpa only[Aq]using D)];exact G
      obtain⟨S,rfl,Y,_,_⟩:=Rv (C:=C) (d:=V) (f:=f) (args:=args) (aC:=aC) (by simpa only[Aq]using D);rw[JS _ _ _ λp hp e=>by
       have:=Eb.2 (Y p hp);rw[<-e]at this;simp only[Prim.meet,a4,Bool.not_false,Bool.true_and]at hm;rw[hm]at this;cases this]
      exact G
     case call=>
      obtain⟨rfl,_⟩:=HS (d:=V) D;exact G
     case load=>
      repeat' split at D
      all_goals first|(simp at D;done)|(simp at D;rw[<-D.2];exact G)
     case store k' o' O=>
      split at D
      ·split at D
       ·simp at D;rw[<-D.2,C4 _ _ _ _ (a9 hm)];exact G
       ·simp at D
      ·simp at D
     case new ty cs=>
      split at D
      ·rename_i d;split at D
       ·simp at D
       ·rename_i hn;simp at D;rw[<-D.2,C7 _ _ _ _ (by rintro rfl;rw[hn]at G;simp at G)];exact G
      ·simp at D
    simp only[Aq,hl,h2]
 case store key off cs=>
  cases G:Ab bx key with
  |none=>rw[G]at I;simp at I
  |some b=>
   rw[G]at I;dsimp only at I;split at I
   ·rename_i hle;simp at I;obtain⟨rfl,rfl⟩:=I;cases pj<;>simp only[Aq]at D<;>try (simp at D;done)
    case val v=>simp at D;obtain⟨rfl,rfl⟩:=D;exact⟨bx,rfl,by simp only[Aq,G,hle,dc]⟩
    case newView e ks l=>simp at D;obtain⟨rfl,rfl⟩:=D;exact⟨bx,rfl,by simp only[Aq,G,hle,dc]⟩
    case rload g sz id idx sub=>
     obtain⟨rfl,X⟩:=LX (C:=C) (d:=V) (by simpa only[Aq]using D);exact⟨bx,X _ _,by simp only[Aq,G,hle,dc]⟩
    case callD f args=>
     obtain⟨S,rfl,Y,_,X⟩:=Rv (C:=C) (d:=V) (f:=f) (args:=args) (aC:=aC) (by simpa only[Aq]using D);have T:key∉AZ (cat AC.keys (cat TV.cellsOf args)) []:=λe=>by
      have:=Eb.2 e;simp only[Prim.meet]at hm;rw[hm]at this;cases this
     have L:∀p∈S,key≠nth 0 (AZ (cat AC.keys (cat TV.cellsOf args)) []) (p.1-base):=λp hp e=>T (by rw[e];exact Y p hp);refine⟨_,X V bx λk a1=>(C4 _ _ _ _ (by rintro rfl;exact T a1)).symm,?_⟩;simp only[Aq];rw[JS _ _ _ L,G];simp only[hle,dc];rw[ZN _ _ _ _ L]
    case call f args=>
     obtain⟨rfl,X⟩:=HS (d:=V) D;exact⟨bx,X _ _,by simp only[Aq,G,hle,dc]⟩
    case load g sz k' o'=>
     have T:=a9 hm;rw[C4 _ _ _ _ (λe=>T e.symm)]at D;refine⟨bx,?_,?_⟩
     ·simp only[Aq]
      repeat' split at D
      all_goals first|(simp at D;done)|skip
      rename_i q1 _ _ q2;simp at D;obtain⟨rfl,_⟩:=D;simp only[q1,q2]
     ·have:J=upd bx key ⟨b.ty,splice b.cells off cs⟩:=by
       repeat' split at D
       all_goals first|(simp at D;done)|(simp at D;exact D.2.symm)
      subst this;simp only[Aq,G,hle,dc]
    case store k' o' O=>
     have T:=a9 hm;rw[C4 _ _ _ _ (λe=>T e.symm)]at D;cases h2:Ab bx k' with
     |none=>rw[h2]at D;simp at D
     |some b'=>
      rw[h2]at D;dsimp only at D;split at D
      ·rename_i a0;simp at D;obtain⟨rfl,rfl⟩:=D;refine⟨upd bx k' ⟨b'.ty,splice b'.cells o' O⟩,by simp only[Aq,h2,a0,dc],?_⟩;simp only[Aq];rw[C4 _ _ _ _ T,G];simp only[hle,dc];rw[Su _ _ _ _ _ T]
      ·simp at D
    case new ty O=>
     split at D
     ·rename_i d;split at D
      ·simp at D
      ·rename_i hn;simp at D;obtain⟨rfl,rfl⟩:=D;have a5:d≠key:=by
        rintro rfl;rw[DU _ _ _ _ G]at hn;simp at hn
       rw[C4 _ _ _ _ a5]at hn;refine⟨ins bx d ⟨ty,O⟩,by simp only[Aq,hn],?_⟩;simp only[Aq];rw[C7 _ _ _ _ (λe=>a5 e.symm),G];simp only[hle,dc];rw[P2 _ _ _ _ _ a5]
     ·simp at D
   ·simp at I
 case new ty cs=>
  cases b1:di with
  |none=>rw[b1]at I;simp at I
  |some d=>
   rw[b1]at I;dsimp only at I;cases G:Ab bx d with
   |some _=>rw[G]at I;simp at I
   |none=>
    rw[G]at I;simp at I;obtain⟨rfl,rfl⟩:=I;have N:∀bb,Ab bb d=none->Aq (C:=C) (some d) (.new ty cs) bb aC=some (.c (.ptr d 0),ins bb d ⟨ty,cs⟩):=by
     intro bb hb;simp only[Aq,hb]
    cases pj<;>simp only[Aq]at D<;>try (simp at D;done)
    case val v=>simp at D;obtain⟨rfl,rfl⟩:=D;exact⟨bx,rfl,N bx G⟩
    case newView e ks l=>simp at D;obtain⟨rfl,rfl⟩:=D;exact⟨bx,rfl,N bx G⟩
    case rload g sz id idx sub=>
     obtain⟨rfl,X⟩:=LX (C:=C) (d:=V) (by simpa only[Aq]using D);exact⟨bx,X _ _,N bx G⟩
    case callD f args=>
     obtain⟨S,rfl,Y,_,X⟩:=Rv (C:=C) (d:=V) (f:=f) (args:=args) (aC:=aC) (by simpa only[Aq]using D);have T:d∉AZ (cat AC.keys (cat TV.cellsOf args)) []:=λe=>by
      obtain⟨b,hb⟩:=Zmu a8 e;rw[G]at hb;cases hb
     have L:∀p∈S,d≠nth 0 (AZ (cat AC.keys (cat TV.cellsOf args)) []) (p.1-base):=λp hp e=>T (by rw[e];exact Y p hp);refine⟨_,X V bx λk a1=>(C7 _ _ _ _ (by rintro rfl;exact T a1)).symm,?_⟩;rw[N _ (by rw[JS _ _ _ L];exact G),Xp _ _ _ _ L]
    case call f args=>
     obtain⟨rfl,X⟩:=HS (d:=V) D;exact⟨bx,X _ _,N bx G⟩
    case load g sz k' o'=>
     obtain⟨b',M⟩:=a8;have T:k'≠d:=by rintro rfl;rw[G]at M;simp at M
     rw[C7 _ _ _ _ T]at D;refine⟨bx,?_,?_⟩
     ·simp only[Aq]
      repeat' split at D
      all_goals first|(simp at D;done)|skip
      rename_i q1 _ _ q2;simp at D;obtain⟨rfl,_⟩:=D;simp only[q1,q2]
     ·have:J=ins bx d ⟨ty,cs⟩:=by
       repeat' split at D
       all_goals first|(simp at D;done)|(simp at D;exact D.2.symm)
      subst this;exact N bx G
    case store k' o' O=>
     obtain⟨⟨b',M⟩,_⟩:=a8;have T:k'≠d:=by rintro rfl;rw[G]at M;simp at M
     rw[C7 _ _ _ _ T,M]at D;dsimp only at D;split at D
     ·rename_i a0;simp at D;obtain⟨rfl,rfl⟩:=D;refine⟨upd bx k' ⟨b'.ty,splice b'.cells o' O⟩,by simp only[Aq,M,a0,dc],?_⟩;rw[N _ (by rw[C4 _ _ _ _ (λe=>T e.symm)];exact G),P2 _ _ _ _ _ (λe=>T e.symm)]
     ·simp at D
    case new b4 O=>
     cases b2:V with
     |none=>rw[b2]at D;simp at D
     |some e=>
      rw[b2]at D;dsimp only at D;have b3:d≠e:=by rintro rfl;exact hd d b1 b2
      rw[C7 _ _ _ _ (λq=>b3 q.symm)]at D;cases h2:Ab bx e with
      |some _=>rw[h2]at D;simp at D
      |none=>
       rw[h2]at D;simp at D;obtain⟨rfl,rfl⟩:=D;refine⟨ins bx e ⟨b4,O⟩,by simp only[Aq,h2],?_⟩;rw[N _ (by rw[C7 _ _ _ _ b3];exact G),WB _ _ _ _ _ b3]
end
open Go.RowKit
structure WFst (s : St) : Prop where
 t:∀v∈s.tmps,TV.wf s.aB s.aC v
 b:∀(k:Nat) (b:Box),Ab s.aB k=some b->∀a∈b.cells,AC.wf s.aB s.aC a
section
variable {P:Program} {C:Cfg} {w:World} {R:Type} {Z:Base}
theorem Zry {d:Option Tmp} {f:FuncId} {args:List TV} {bx D:List (Nat×Box)} {aC:List (Nat×Row)} {v:TV} (h:Aq (C:=C) d (.call f args) bx aC=some (v,D)):TV.wf D aC v:=by
 simp only[Aq]at h;split at h
 ·split at h
  ·split at h
   ·split at h
    ·rename_i E;simp at h;obtain⟨rfl,_⟩:=h;simp only[al]at E;exact HO E.2
    ·simp at h
   ·simp at h
  ·simp at h
 ·simp at h
theorem Qvo {bx:List (Nat×Box)} {aC:List (Nat×Row)}:∀(ks:List Kd) (cs:List AC) (j:Nat),∀c∈DQ ks cs j,AC.wf bx aC c
 |[],_,_,c,D=>by simp[DQ]at D
 |k::ks,cs,j,c,D=>by
  simp only[DQ,az]at D;rcases D with rfl|D
  ·cases k<;>try exact trivial
   generalize nth AC.dead cs j=b;cases b<;>exact trivial
  ·exact Qvo ks cs _ c D
theorem Qug {α:Type}:∀(l:List (Nat×α)) (k:Nat) (x:α),Ab l k=none->Ab (upd l k x) k=none
 |[],_,_,_=>rfl
 |(j,c)::l,k,x,h=>by
  simp only[Ab]at h;cases hb:Nat.beq j k<;>rw[hb]at h
  ·simp only[upd,hb,ao,Ab];exact Qug l k x h
  ·simp at h
theorem Qmm {keys:List Nat}:∀(m:List (Nat×Box)) (l:List (Nat×Box)) {n:Nat} {b:Box},Ab (Cb keys m l) n=some b->Ab l n=some b\/∃p∈m,p.2=b
 |[],_,_,_,h=> .inl h
 |(j,c)::m,l,n,b,h=>by
  simp only[Cb]at h;rcases Qmm m _ h with h|⟨p,E,e⟩
  ·by_cases e:n=nth 0 keys (j-base)
   ·subst e;cases D:Ab l (nth 0 keys (j-base))with
    |none=>rw[Qug _ _ _ D]at h;cases h
    |some y=>
     rw[DU _ _ _ _ D]at h;simp at h;subst h;exact .inr ⟨(j,c),by simp,rfl⟩
   ·rw[C4 _ _ _ _ e]at h;exact .inl h
  ·exact .inr ⟨p,by simp[E],e⟩
theorem Qm0 {d:Option Tmp} {f:FuncId} {args:List TV} {bx G:List (Nat×Box)} {aC:List (Nat×Row)} {v:TV} (h:Aq (C:=C) d (.callD f args) bx aC=some (v,G)):
  ∃D,G=Cb (AZ (cat AC.keys (cat TV.cellsOf args)) []) D bx/\True/\v.plainB=true/\∀p∈D,Ai AC.calm p.2.cells=true:=by
 simp only[Aq]at h;generalize AZ (cat AC.keys (cat TV.cellsOf args)) []=keys at h⊢
 repeat' split at h
 all_goals first|(simp at h;done)|skip
 rename_i I D _ E;simp only[ap,bt]at h;obtain⟨rfl,rfl⟩:=h;simp only[al]at E;exact⟨D,rfl,trivial,E.2,As.1 E.1.2⟩
theorem Ztg {ops:List Oper} {o:Oper} {tm:List TV} {bx O:List (Nat×Box)} {aC:List (Nat×Row)} {p:Option Prim} {v:TV} (L:WFst ⟨tm,bx,aC⟩) (h:CY P C ops o tm bx aC=some (p,v,O)):
  WFst ⟨tm,O,aC⟩/\TV.wf O aC v/\∀q,p=some q->Prim.wf bx aC q:=by
 unfold CY at h;split at h
 ·cases N:opK P C (AK tm) o.dst o.op some with
  |none=>rw[N]at h;simp at h
  |some q=>
   rw[N]at h;simp only[ak]at h;have T:=VW (pre:=false) (XK (aB:=bx) (aC:=aC) (λx=>WS L.t x) N);clear N;generalize q.dr false=q at h T⊢;cases D:Aq (C:=C) o.dst q bx aC with
   |none=>rw[D]at h;simp at h
   |some z=>
    rw[D]at h;simp at h;obtain⟨rfl,rfl,rfl⟩:=h;have M:∀{S:List (Nat×Box)},(∀a,AC.wf bx aC a->AC.wf S aC a)->(∀(k:Nat) (b:Box),Ab S k=some b->∀a∈b.cells,AC.wf bx aC a)->WFst ⟨tm,S,aC⟩:=
     λG hb=>⟨λv U=>TV.wf_mono G (L.t v U),λk b E a D=>G a (hb k b E a D)⟩
    refine⟨?_,?_,λq' e=>by simp at e;subst e;exact T⟩;all_goals
     cases q<;>simp only[Aq]at D<;>try (simp at D;done)
    ·simp at D;subst D;exact L
    ·repeat' split at D
     all_goals first|(simp at D;done)|(simp at D;subst D;exact L)
    ·rename_i key off cs;split at D
     ·rename_i b hb;split at D
      ·simp at D;subst D;refine M (λa => AC.wf_mono (λk bo J => by
        by_cases I:k=key
        ·subst I;exact⟨_,DU _ _ _ _ hb⟩
        ·exact⟨bo,by rw[C4 _ _ _ _ I];exact J⟩) (λk r E=>⟨r,E,rfl,rfl⟩)) ?_
       intro k bo E a G;by_cases I:k=key
       ·subst I;rw[DU _ _ _ _ hb]at E;simp at E;subst E;rcases RE _ _ _ G with G|G
        ·exact L.b k b hb a G
        ·exact T.2 a G
       ·rw[C4 _ _ _ _ I]at E;exact L.b k bo E a G
      ·simp at D
     ·simp at D
    ·rename_i ty cs;split at D
     ·rename_i d hd;split at D
      ·simp at D
      ·rename_i X;simp at D;subst D;refine M (λa=>AC.wf_mono (λk bo J=>⟨bo,by rw[C7 _ _ _ _ (by rintro rfl;rw[X]at J;simp at J)];exact J⟩) (λk r E=>⟨r,E,rfl,rfl⟩)) ?_;intro k bo E a G;by_cases I:k=d
       ·subst I;rw[DI _ _ _ X]at E;simp at E;subst E;exact T a G
       ·rw[C7 _ _ _ _ I]at E;exact L.b k bo E a G
     ·simp at D
    ·rename_i g sz id idx sub;obtain⟨z1,z2⟩:=z;obtain⟨rfl,_⟩:=LX (C:=C) (d:=o.dst) (by simpa only[Aq]using D);exact L
    ·simp at D;subst D;exact L
    ·obtain⟨rfl,_⟩:=HS (d:=o.dst) D;exact L
    ·rename_i f args;obtain⟨z1,z2⟩:=z;obtain⟨Y,rfl,a1,_,V⟩:=Qm0 (C:=C) (d:=o.dst) (f:=f) (args:=args) (aC:=aC) (by simpa only[Aq]using D);refine M (λa=>AC.wf_mono (λk bo J=>OR _ _ J) (λk r E=>⟨r,E,rfl,rfl⟩)) ?_;intro k bo E a G;rcases Qmm _ _ E with E|⟨p,N,rfl⟩
     ·exact L.b k bo E a G
     ·exact Qqh (V p N) a G
    ·simp at D;subst D;exact T
    ·split at D
     ·rename_i b hb;split at D
      ·rename_i v U;simp at D;subst D;exact ON U (L.b _ b hb)
      ·simp at D
     ·simp at D
    ·repeat' split at D
     all_goals first|(simp at D;done)|(simp at D;subst D;trivial)
    ·rename_i ty cs;split at D
     ·rename_i d hd;split at D
      ·simp at D
      ·rename_i X;simp at D;subst D;exact B9 ⟨_,DI _ _ _ X⟩
     ·simp at D
    ·split at D
     ·rename_i r hr;split at D
      ·rename_i v U;simp at D;subst D;exact ON U λa G=>Qvo r.ks _ 0 a G
      ·simp at D
     ·simp at D
    ·simp at D;subst D;exact B9 trivial
    ·rename_i f args;exact Zry (d:=o.dst) D
    ·rename_i f args;obtain⟨z1,z2⟩:=z;obtain⟨Y,_,_,a0,_⟩:=Qm0 (C:=C) (d:=o.dst) (f:=f) (args:=args) (aC:=aC) (by simpa only[Aq]using D);exact HO a0
 ·simp at h;obtain⟨rfl,rfl,rfl⟩:=h;exact⟨L,λp N=>by simp at N,λq e=>by simp at e⟩
 ·simp at h
theorem WI {tm:List TV} {bx:List (Nat×Box)} {aC:List (Nat×Row)} {d:Option Tmp} {v:TV} (E:WFst ⟨tm,bx,aC⟩) (G:TV.wf bx aC v):WFst ⟨Cn tm d v,bx,aC⟩:=by
 cases d with
 |none=>exact E
 |some t=>
  refine⟨λu D=> ?_,E.b⟩;simp only[Cn,Hh]at D;rcases d8 D with D|rfl
  ·exact E.t u D
  ·exact G
theorem Zaz {id:Nat} {bx:List (Nat×Box)} {k:Nat} {b:Box} (h:Ab (bx.map λp=>(p.1,p.2.kill id)) k=some b):∃b',Ab bx k=some b'/\b=b'.kill id:=by
 have:=ED (Box.kill id) bx k;rw[this]at h;simp only[bg]at h;obtain⟨b',D,rfl⟩:=h;exact⟨b',D,rfl⟩
theorem Tg {bx:List (Nat×Box)} {aC D:List (Nat×Row)} {id:Nat} (M:∀j,j≠id->Ab D j=Ab aC j) {a:AC} (h:AC.wf bx aC a):AC.wf (bx.map λp=>(p.1,p.2.kill id)) D (a.kill id):=by
 have hb:∀k b,Ab bx k=some b->∃b',Ab (bx.map λp=>(p.1,p.2.kill id)) k=some b':=λk b O=>⟨b.kill id,by have:=ED (Box.kill id) bx k;rw[this,O];rfl⟩;have N:∀c,AC.wfP bx c->AC.wfP (bx.map λp=>(p.1,p.2.kill id)) c:=by
  intro c G;cases c<;>try exact trivial
  obtain⟨b,E⟩:=G;exact hb _ _ E
 cases a<;>try exact trivial
 case ptr k o=>
  obtain⟨b,E⟩:=h;exact hb _ _ E
 case bsl k o=>
  obtain⟨b,E⟩:=h;exact hb _ _ E
 case own j w n=>
  simp only[AC.kill];cases I:Nat.beq j id
  ·obtain⟨r,J,L⟩:=h;exact⟨r,by rw[M j (FP I)];exact J,L⟩
  ·exact trivial
 case rptr j a b=>
  simp only[AC.kill];cases I:Nat.beq j id
  ·obtain⟨r,J,L⟩:=h;exact⟨r,by rw[M j (FP I)];exact J,L⟩
  ·exact trivial
 case vptr cs sub=>exact h
 case clo f fs cs=>exact⟨λc G=>N c (h.1 c G),λc G=>N c (h.2 c G)⟩
theorem Zpl {dst:Option Tmp} {aC D:List (Nat×Row)} {p:Prim} {id:Nat} {v:TV} (G:IB dst p=some id) (E:IL dst aC p=some (v,D)):(∀j,j≠id->Ab D j=Ab aC j)/\TV.wf [] D v:=by
 cases p<;>simp[IB]at G
 rename_i e ks bytes J x;cases J<;>simp at G
 case nilSl=>
  subst G;simp only[IL,Qfb]at E
  repeat' split at E
  all_goals first|(simp at E;done)|skip
  rename_i L _ _;simp only[ap,bt]at E;obtain⟨rfl,rfl⟩:=E;refine⟨λj I=>C7 _ _ _ _ I,B9 ?_⟩;exact⟨_,DI _ _ _ L,rfl,rfl⟩
 rename_i id' w n;subst G;simp only[IL,YA]at E
 repeat' split at E
 all_goals first|(simp at E;done)|skip
 rename_i r M _ _;simp only[ap,bt]at E;obtain⟨rfl,rfl⟩:=E;refine⟨λj I=>C4 _ _ _ _ I,B9 ?_⟩;exact⟨_,DU _ _ _ _ M,rfl,rfl⟩
theorem Qsd {aC rows':List (Nat×Row)}:∀{args:List TV},Ai TV.plainB args=true->Ep aC args=Ep rows' args
 |[],_=>rfl
 |a::l,h=>by
  simp only[Ai]at h;have E:a.plainB=true/\Ai TV.plainB l=true:=by cases I:a.plainB<;>rw[I]at h<;>simp at h;exact⟨rfl,h⟩
  have e:a.res aC=a.res rows':=by
   cases a with
   |dead=>rfl
   |tup ps=>rfl
   |v g cs=>
    simp only[TV.res];have:DJ aC cs=DJ rows' cs:=by
     have D:=E.1;simp only[TV.plainB]at D;clear h E;induction cs with
     |nil=>rfl
     |cons c cs J=>
      simp only[Ai]at D;have G:c.plain=true/\Ai AC.plain cs=true:=by cases L:c.plain<;>rw[L]at D<;>simp at D;exact⟨rfl,D⟩
      simp only[DJ];rw[J G.2];have:c.res aC=c.res rows':=by
       have:=G.1;cases c<;>simp[AC.plain]at this<;>rfl
      rw[this]
    rw[this]
  simp only[Ep];rw[e,Qsd E.2]
theorem Zos {dst:Option Tmp} {aC E:List (Nat×Row)} {p:Prim} {v:TV} (h:mkD (C:=C) dst p aC=some (v,E)):(∀j r,Ab aC j=some r->Ab E j=some r)/\TV.wf [] E v:=by
 unfold mkD at h;cases D:mkG (C:=C) dst p with
 |none=>rw[D]at h;simp at h
 |some q=>
  obtain⟨M,o⟩:=q;rw[D]at h;cases o with
  |none=>
   simp only[ap,bt]at h;obtain⟨rfl,rfl⟩:=h;refine⟨λ_ _ h=>h,?_⟩;unfold mkG at D;split at D
   ·split at D<;>simp at D
   ·split at D
    ·split at D
     ·split at D
      ·split at D
       ·rename_i J;simp only[ap,bt]at D;rw[<-D.1];exact HO J
       ·simp at D
      ·split at D<;>simp at D
      ·simp at D
     ·simp at D
    ·simp at D
   ·simp at D
  |some L=>
   obtain⟨k,r⟩:=L;dsimp only at h;split at h
   ·simp at h
   ·rename_i G;simp only[ap,bt]at h;obtain⟨rfl,rfl⟩:=h;refine⟨λj r' I=>by rw[C7 _ _ _ _ (by rintro rfl;rw[G]at I;cases I)];exact I,?_⟩;unfold mkG at D;split at D
    ·split at D
     ·simp only[ap,bt]at D;obtain⟨rfl,rfl,rfl⟩:=D;exact B9 ⟨_,DI _ _ _ G,rfl,rfl⟩
     ·simp at D
    ·split at D
     ·split at D
      ·split at D
       ·split at D<;>simp at D
       ·split at D
        ·simp only[ap,bt]at D;obtain⟨rfl,rfl,rfl⟩:=D;exact B9 ⟨_,DI _ _ _ G,rfl,rfl⟩
        ·simp at D
       ·simp at D
      ·simp at D
     ·simp at D
    ·simp at D
theorem Zsc {ops:List Oper} {o:Oper} {s U:St} {p:Option Prim} (L:WFst s) (h:BV (P:=P) (C:=C) ops o s=some (p,U)):WFst U:=by
 obtain⟨tm,bx,aC⟩:=s;cases V:Prim.isApp p
 ·cases M:Prim.isMk p
  case true=>
   obtain⟨_,q,v,D,_,rfl,O,rfl⟩:=QZ h M;obtain⟨N,S⟩:=Zos O;have E:∀a,AC.wf bx aC a->AC.wf bx D a:=λa=>AC.wf_mono (λk b G=>⟨b,G⟩) (λk r G=>⟨r,N k r G,rfl,rfl⟩);exact WI ⟨λu J=>TV.wf_mono E (L.t u J),λk b G a Y=>E a (L.b k b G a Y)⟩ (TV.wf_mono (λa E=>AC.wf_mono (aB:=[]) (aC:=D) (λk b G=>by simp[Ab]at G) (λk r G=>⟨r,G,rfl,rfl⟩) E) S)
  obtain⟨v,a0,I,rfl⟩:=Kj h V M;obtain⟨h1,h2,_⟩:=Ztg L I;exact WI h1 h2
 ·obtain⟨_,q,id,v,D,_,rfl,h3,O,rfl⟩:=Qbt h V;obtain⟨N,S⟩:=Zpl h3 O;refine WI ⟨λu J=> ?_,λk b G a E=> ?_⟩ (TV.wf_mono (λa E=>AC.wf_mono (aB:=[]) (aC:=D) (λk b G=>by simp[Ab]at G) (λk r G=>⟨r,G,rfl,rfl⟩) E) S)
  ·simp only[av]at J;obtain⟨u,J,rfl⟩:=J;have:=L.t u J;cases u with
   |dead=>trivial
   |v g cs=>
    intro a E;simp only[av]at E;obtain⟨c,I,rfl⟩:=E;exact Tg N (this c I)
   |tup ps=>
    intro p X a E;simp only[av]at X;obtain⟨q,hq,rfl⟩:=X;simp only[av]at E;obtain⟨c,I,rfl⟩:=E;exact Tg N (this q hq c I)
  ·obtain⟨b',T,rfl⟩:=Zaz G;simp only[Box.kill,av]at E;obtain⟨c,I,rfl⟩:=E;exact Tg N (L.b k b' T c I)
theorem Q0s {o:Op} {p:Option Prim} (h:Prim.still o p=true):Prim.isMk p=false:=by
 cases p with
 |none=>rfl
 |some q=>cases q<;>first|rfl|(cases o<;>simp[Prim.still,Prim.isLive,Prim.isPtr,Prim.isCallP,Prim.isLoad]at h)
theorem Zty {d:Option Tmp} {p:Prim} {bx E:List (Nat×Box)} {aC:List (Nat×Row)} {v:TV} (G:Prim.mkStill (some p)=true) (h:Aq (C:=C) d p bx aC=some (v,E)):
  E=bx/\∀D,Aq (C:=C) d p bx D=some (v,bx):=by
 cases p<;>simp[Prim.mkStill]at G
 case val u=>simp only[Aq,ap,bt]at h⊢;obtain⟨rfl,rfl⟩:=h;exact⟨rfl,λ_=>by simp⟩
 case newView e ks l=>simp only[Aq,ap,bt]at h⊢;obtain⟨rfl,rfl⟩:=h;exact⟨rfl,λ_=>by simp⟩
 case load g sz key off=>
  simp only[Aq]at h⊢
  repeat' split at h
  all_goals first|(simp at h;done)|skip
  simp at h;obtain⟨rfl,rfl⟩:=h;exact⟨rfl,λ_=>rfl⟩
 case call f args=>
  obtain⟨rfl,_⟩:=HS h;refine⟨rfl,λD=> ?_⟩;simp only[Aq]at h⊢;rw[Qsd (aC:=D) (rows':=aC) G];exact h
 case newRow e ks l=>simp[Aq]at h
 case callF f args=>simp[Aq]at h
theorem Qw1 {ops:List Oper} {o:Oper} {tm:List TV} {bx E:List (Nat×Box)} {aC:List (Nat×Row)} {p:Option Prim} {v:TV} (J:Prim.mkStill p=true) (h:CY P C ops o tm bx aC=some (p,v,E)):
  E=bx/\∀D,CY P C ops o tm bx D=some (p,v,bx):=by
 unfold CY at h⊢;split at h
 ·cases I:opK P C (AK tm) o.dst o.op some with
  |none=>rw[I]at h;simp at h
  |some q=>
   rw[I]at h;simp only[ak]at h⊢;cases G:Aq (C:=C) o.dst (q.dr false) bx aC with
   |none=>rw[G]at h;simp at h
   |some z=>
    rw[G]at h;simp at h;obtain⟨rfl,rfl,rfl⟩:=h;obtain⟨e1,e2⟩:=Zty J G;refine⟨e1,λD=> ?_⟩;rw[e2 D];rfl
 ·simp at h;obtain⟨rfl,rfl,rfl⟩:=h;exact⟨rfl,λ_=>rfl⟩
 ·simp at h
theorem Zld {S T:Option Tmp} {U V:Prim} {aC G D:List (Nat×Row)} {Y vj:TV} (J:mkD (C:=C) S U aC=some (Y,G)) (I:mkD (C:=C) T V G=some (vj,D)):
  ∃E,mkD (C:=C) T V aC=some (vj,E)/\mkD (C:=C) S U E=some (Y,D):=by
 unfold mkD at*;cases N:mkG (C:=C) S U with
 |none=>rw[N]at J;simp at J
 |some qi=>
  obtain⟨v1,o1⟩:=qi;rw[N]at J;cases O:mkG (C:=C) T V with
  |none=>rw[O]at I;simp at I
  |some qj=>
   obtain⟨v2,o2⟩:=qj;rw[O]at I;cases o1 with
   |none=>
    simp only[ap,bt]at J;obtain⟨rfl,rfl⟩:=J;exact⟨D,I,rfl⟩
   |some k1=>
    obtain⟨k,r⟩:=k1;dsimp only at J;split at J
    ·simp at J
    rename_i X;simp only[ap,bt]at J;obtain⟨rfl,rfl⟩:=J;cases o2 with
    |none=>
     simp only[ap,bt]at I;obtain⟨rfl,rfl⟩:=I;refine⟨aC,rfl,?_⟩;dsimp only;rw[X]
    |some k2=>
     obtain⟨k',r'⟩:=k2;dsimp only at I;split at I
     ·simp at I
     rename_i L;simp only[ap,bt]at I;obtain⟨rfl,rfl⟩:=I;have M:k'≠k:=by
      rintro rfl;rw[DI _ _ _ X]at L;cases L
     rw[C7 _ _ _ _ M]at L;refine⟨ins aC k' r',by dsimp only;rw[L],?_⟩;dsimp only;rw[C7 _ _ _ _ (λe=>M e.symm),X];dsimp only;rw[WB _ _ _ _ _ M]
theorem Zob (a9:Aj P C) {ops:Array Oper} {x y:Oper} {s s1 s2:St} {px py:Option Prim} (hw:WFst s) (hy:BV (P:=P) (C:=C) ops.toList y s=some (py,s1)) (hx:BV (P:=P) (C:=C) ops.toList x s1=some (px,s2))
  (b8:Oper.apart ops y x=true) (hm:Prim.meet C.ro py px=false) (G:Ha y py x px=true):∃b3,BV (P:=P) (C:=C) ops.toList x s=some (px,b3)/\BV (P:=P) (C:=C) ops.toList y b3=some (py,s2):=by
 obtain⟨a1,a2,a3⟩:=Oper.apart_spec b8;obtain⟨tm,bx,aC⟩:=s;have J:∀(o:Oper) (tm:List TV),o.guard.isNone=true->BD ops.toList o tm=some true:=by
  intro o tm h;unfold BD;rw[Option.isNone_iff_eq_none.1 h]
 have L:∀(o:Oper) (tm:List TV) (d:Option Tmp) (v:TV),(∀t,d=some t->t∉o.looksAt ops)->opK P C (AK (Cn tm d v)) o.dst o.op some=opK P C (AK tm) o.dst o.op some:=by
  intro o tm d v h;cases d with
  |none=>rfl
  |some t=>
   exact Jb (λx hx => Qod (by
    rintro rfl;exact h t rfl (List.mem_append_left _ (List.mem_filterMap.2 ⟨.tmp t,by simpa using hx,rfl⟩)))) some
 cases U:Prim.isApp py
 case true=>
  unfold Ha at G;rw[U]at G;simp only[ai,al]at G;obtain⟨⟨⟨o1,o2⟩,o3⟩,o4⟩:=G;have V:Prim.isApp px=false:=by simpa using o1
  obtain⟨_,q,id,vy,a4,hq,rfl,h3,h4,rfl⟩:=Qbt hy U;obtain⟨vx,a5,D,rfl⟩:=Kj hx V (Q0s o4);unfold CY at D;rw[J x _ o3]at D;dsimp only at D;rw[L x _ _ _ (λt I=>a1 t I)]at D;cases X:opK P C (AK (tm.map (TV.kill id))) x.dst x.op some with
  |none=>rw[X]at D;simp at D
  |some qx=>
   rw[X]at D;simp only[ak]at D;cases N:Aq (C:=C) x.dst (qx.dr false) (bx.map λp=>(p.1,p.2.kill id)) a4 with
   |none=>rw[N]at D;simp at D
   |some zx=>
    rw[N]at D;simp at D;obtain⟨rfl,rfl,rfl⟩:=D;obtain⟨vx,a5⟩:=zx;obtain⟨rfl,u,rfl,b0⟩:=(Qua (bx:=bx) o4).2 N;have b4:=(Qn0 (P:=P) (C:=C) (id:=id) (tm:=tm) (dst:=x.dst) o4).1 X;refine⟨⟨Cn tm x.dst u,bx,aC⟩,LW (by unfold CY;rw[J x _ o3];dsimp only;rw[b4];simp only[ak];rw[b0 aC];rfl),?_⟩;rw[Qtb (J y _ o2) (by rw[L y _ _ _ (λt I=>a3 t I)];exact hq) h3 h4 U,Qqu];dsimp only;rw[LL vy _ a2]
 case false=>
 cases V:Prim.isApp px
 case true=>
  unfold Ha at G;rw[U,V]at G;simp only[ai,ao,al]at G;obtain⟨⟨o2,o3⟩,o4⟩:=G;obtain⟨vy,b1,E,rfl⟩:=Kj hy U (Q0s o4);obtain⟨_,q,id,vx,a4,hq,rfl,h3,h4,rfl⟩:=Qbt hx V;rw[L x _ _ _ (λt I=>a1 t I)]at hq;unfold CY at E;rw[J y _ o2]at E;dsimp only at E;cases a0:opK P C (AK tm) y.dst y.op some with
  |none=>rw[a0]at E;simp at E
  |some qy=>
   rw[a0]at E;simp only[ak]at E;cases O:Aq (C:=C) y.dst (qy.dr false) bx aC with
   |none=>rw[O]at E;simp at E
   |some zy=>
    rw[O]at E;simp at E;obtain⟨rfl,rfl,rfl⟩:=E;obtain⟨vy,b1⟩:=zy;obtain⟨rfl,b0⟩:=(Qua (id:=id) (bx:=bx) o4).1 O;have b5:=(Qn0 (P:=P) (C:=C) (id:=id) (tm:=tm) (dst:=y.dst) o4).2 a0;refine⟨_,Qtb (J x _ o3) hq h3 h4 V,?_⟩;rw[LW (p:=some (qy.dr false)) (v:=vy.kill id) (by unfold CY;rw[J y _ o2];dsimp only;rw[L y _ _ _ (λt I=>a3 t I),b5];simp only[ak];rw[b0];rfl)];dsimp only;rw[Qqu,LL vx _ (λt I e=>a2 t e I)]
 case false=>
   unfold Ha at G;rw[U,V]at G;simp only[ao]at G;cases S:Prim.isMk py
   case true=>
    rw[S]at G;simp only[ai]at G;obtain⟨a8,qy,vy,b9,b6,rfl,O,rfl⟩:=QZ hy S;cases M:Prim.isMk px
    case true=>
     obtain⟨Y,qx,vx,a6,a7,rfl,N,rfl⟩:=QZ hx M;rw[Og (λt I=>a1 t I)]at Y;rw[L x _ _ _ (λt I=>a1 t I)]at a7;obtain⟨b7,m1,m2⟩:=Zld O N;refine⟨_,QL Y a7 m1 M,?_⟩;rw[QL (by rw[Og (λt I=>a3 t I)];exact a8) (by rw[L y _ _ _ (λt I=>a3 t I)];exact b6) m2 S,LL vy vx a2]
    case false=>
     obtain⟨vx,a5,D,rfl⟩:=Kj hx V M;rw[QN (λt I=>a1 t I)]at D;obtain⟨rfl,b2⟩:=Qw1 G D;refine⟨_,LW (b2 aC),?_⟩;rw[QL (by rw[Og (λt I=>a3 t I)];exact a8) (by rw[L y _ _ _ (λt I=>a3 t I)];exact b6) O S,LL vy vx a2]
   case false=>
   rw[S]at G;simp only[ao]at G;cases M:Prim.isMk px
   case true=>
    rw[M]at G;simp only[ai]at G;obtain⟨vy,b1,E,rfl⟩:=Kj hy U S;obtain⟨rfl,b2⟩:=Qw1 G E;obtain⟨Y,qx,vx,a6,a7,rfl,N,rfl⟩:=QZ hx M;rw[Og (λt I=>a1 t I)]at Y;rw[L x _ _ _ (λt I=>a1 t I)]at a7;refine⟨_,QL Y a7 N M,?_⟩;rw[LW (by rw[QN (λt I=>a3 t I)];exact b2 a6),LL vy vx a2]
   case false=>
   obtain⟨vy,b1,E,rfl⟩:=Kj hy U S;obtain⟨vx,a5,D,rfl⟩:=Kj hx V M;rw[QN (λt I=>a1 t I)]at D;have key:∃T,CY P C ops.toList x tm bx aC=some (px,vx,T)/\CY P C ops.toList y tm T aC=some (py,vy,a5):=by
    unfold CY at E D⊢;split at E
    ·rename_i a8;cases a0:opK P C (AK tm) y.dst y.op some with
     |none=>rw[a0]at E;simp at E
     |some qy=>
      rw[a0]at E;simp only[ak]at E;cases O:Aq (C:=C) y.dst (qy.dr false) bx aC with
      |none=>rw[O]at E;simp at E
      |some zy=>
       rw[O]at E;simp at E;obtain⟨rfl,rfl,rfl⟩:=E;split at D
       ·rename_i Y;cases X:opK P C (AK tm) x.dst x.op some with
        |none=>rw[X]at D;simp at D
        |some qx=>
         rw[X]at D;simp only[ak]at D;cases N:Aq (C:=C) x.dst (qx.dr false) zy.2 aC with
         |none=>rw[N]at D;simp at D
         |some zx=>
          rw[N]at D;simp at D;obtain⟨rfl,rfl,rfl⟩:=D;obtain⟨T,m1,m2⟩:=Zbw a9 O N hm a2 (VW (XK (λx=>WS hw.t x) X));exact⟨T,by simp[m1],by simp[m2]⟩
       ·rename_i Y;simp at D;obtain⟨rfl,rfl,rfl⟩:=D;exact⟨bx,rfl,by simp[O]⟩
       ·simp at D
    ·rename_i a8;simp at E;obtain⟨rfl,rfl,rfl⟩:=E;exact⟨a5,D,rfl⟩
    ·simp at E
   obtain⟨T,k1,k2⟩:=key;refine⟨⟨Cn tm x.dst vx,T,aC⟩,LW k1,?_⟩;rw[LW (by rw[QN (λt I=>a3 t I)];exact k2),LL vy vx a2]
theorem Qk9 (D:Aj P C) {ops:Array Oper} {m:List Nat} {x:Nat×Oper×Option Prim} {post:List (Nat×Oper×Option Prim)} {M:St}:∀(pre:List (Nat×Oper×Option Prim)) (s:St),WFst s->O8 P C ops.toList m (pre++x::post) s M->
  (∀y∈pre,C5 ops.toList m x.1=false/\C5 ops.toList m y.1=false/\Oper.apart ops y.2.1 x.2.1=true/\Prim.meet C.ro y.2.2 x.2.2=false/\Ha y.2.1 y.2.2 x.2.1 x.2.2=true)->
  ∃s1,GX P C ops.toList m x.1 x.2.1 s=some (x.2.2,s1)/\O8 P C ops.toList m (pre++post) s1 M
 |[],s,I,h,_=>by
  obtain⟨i,o,p⟩:=x;exact h
 |(j,S,T)::pre,s,I,h,N=>by
  obtain⟨U,E,V⟩:=h;obtain⟨O,G,X,Y,q3⟩:=N (j,S,T) (by simp);have a0:=E;unfold GX at E;rw[ab (by dsimp only at G;rw[G];simp)]at E;obtain⟨s2,J,h4⟩:=Qk9 D pre U (Zsc I E) V λy L=>N y (by simp[L]);unfold GX at J;rw[ab (by rw[O];simp)]at J;obtain⟨s1,h5,h6⟩:=Zob D I E J X Y q3;refine⟨s1,by unfold GX;rw[ab (by rw[O];simp)];exact h5,s2,?_,h4⟩;unfold GX;rw[ab (by dsimp only at G;rw[G];simp)];exact h6
inductive Before (ops : List Oper) : Nat -> Nat -> Prop where
 |one {i:Nat} {o:Oper} {e:Edge} (h:ops[i]? =some o) (he:e∈o.after.toList) (hb:Region.binds .any e=true):Before ops i e.on
 |more {i j:Nat} {o:Oper} {e:Edge} (h:ops[i]? =some o) (he:e∈o.after.toList) (hb:Region.binds .any e=true) (h':Before ops e.on j):Before ops i j
theorem Qdv {m:List Nat} {j:Nat}:∀(l:List Edge) (acc:Nat),Nat.testBit (PV m l acc) j=true->Nat.testBit acc j=true\/∃e∈l,Region.binds .any e=true/\(e.on=j\/Nat.testBit (nth 0 m e.on) j=true)
 |[],acc,h=> .inl h
 |e::l,acc,h=>by
  simp only[PV]at h;cases hb:Region.binds .any e<;>rw[hb]at h
  ·rcases Qdv l _ h with h|⟨D,he,h'⟩
   ·exact .inl h
   ·exact .inr ⟨D,by simp[he],h'⟩
  ·rcases Qdv l _ h with h|⟨D,he,h'⟩
   ·simp only[ai]at h;have:Nat.testBit (acc|||(2^e.on|||nth 0 m e.on)) j=true:=h;rw[Nat.testBit_or,Nat.testBit_or]at this;rw[ip,ip]at this;rcases this with h|h|h
    ·exact .inl h
    ·refine .inr ⟨e,by simp,hb, .inl ?_⟩;rw[Nat.testBit_two_pow]at h;simpa using h
    ·exact .inr ⟨e,by simp,hb, .inr h⟩
   ·exact .inr ⟨D,by simp[he],h'⟩
theorem Zdu {α:Type} (n:Nat) (K:Nat->α):Qy0 n K=K n:=by cases n<;>rfl
theorem Qoj {α:Type} (d:α):∀(l D:List α) (i:Nat),i<l.length->nth d (l++D) i=nth d l i
 |x::l,D,0,_=>rfl
 |x::l,D,i+1,h=>Qoj d l D i (by simpa using h)
theorem Qlu {α:Type} (d x:α):∀(l:List α),nth d (l++[x]) l.length=x
 |[]=>rfl
 |y::l=>Qlu d x l
theorem Qe5 {α:Type} (d:α):∀(l:List α) (i:Nat),l.length<=i->nth d l i=d
 |[],_,_=>rfl
 |x::l,0,h=>by simp at h
 |x::l,i+1,h=>Qe5 d l i (by simpa using h)
theorem Qsf {ops:List Oper} {K:List Nat->Option R} {r:R}:∀(l pre:List Oper) (m:List Nat),ops=pre++l->m.length=pre.length->(∀i j,i<m.length->Nat.testBit (nth 0 m i) j=true->Before ops i j)->Qz l m K=some r->
  ∃T,K T=some r/\∀i j,JJ T i j=true->Before ops i j
 |[],pre,m,he,M,L,h=>⟨m,h,λi j D=>by
   by_cases N:i<m.length
   ·exact L i j N D
   ·unfold JJ at D;rw[Qe5 0 m i (by omega)]at D;simp at D⟩
 |o::l,pre,m,he,M,L,h=>by
  simp only[Qz,Zdu,A2]at h;refine Qsf l (pre++[o]) _ (by simp[he]) (by simp[M]) (λi j N D=> ?_) h;by_cases G:i<m.length
  ·rw[Qoj 0 m _ i G]at D;exact L i j G D
  ·have O:i=m.length:=by simp at N;omega
   subst O;rw[Qlu]at D;have I:ops[m.length]? =some o:=by rw[he,M];simp
   rcases Qdv _ _ D with E|⟨e,J,hb,E⟩
   ·simp at E
   ·rcases E with E|E
    ·rw[<-E];exact .one I J hb
    ·by_cases S:e.on<m.length
     ·exact .more I J hb (L _ _ S E)
     ·rw[Qe5 0 m _ (by omega)]at E;simp at E
end
open Go.RowKit
section
variable {P:Program} {C:Cfg} {w:World} {R:Type} {Z:Base}
theorem Zkq (L:Aj P C) {ops:List Oper} {o:Oper} {s M:St} {p:Option Prim} (h:BV (P:=P) (C:=C) ops o s=some (p,M)) (Y:Prim.simple p=true) (K:Option Prim->St->Option R):
  En P C false ops o s K=K p M:=by
 have I:∀s1:St,s1=s->BD ops o s.tmps=some true->(opK P C (AK s1.tmps) o.dst o.op λp=>A6 C o.dst (p.dr false) s1 λv M=>put M o.dst v (K (some (p.dr false))))=K p M:=by
  rintro s1 rfl J;unfold BV at h;rw[J]at h;dsimp only at h;rw[Of];cases X:opK P C (AK s1.tmps) o.dst o.op some with
  |none=>rw[X]at h;simp at h
  |some q=>
   rw[X]at h;simp only[ak]at h;cases U:D9 (C:=C) o.dst (q.dr false) s1 with
   |none=>rw[U]at h;simp at h
   |some z=>
    rw[U]at h;simp at h;obtain⟨rfl,rfl⟩:=h;simp only[ak];rw[Qwr L Y,U];simp only[ak,JV]
 have G:∀s1:St,s1=s->BD ops o s.tmps=some false->put s1 o.dst (.tup []) (K none)=K p M:=by
  rintro s1 rfl J;unfold BV at h;rw[J]at h;simp at h;obtain⟨rfl,rfl⟩:=h;rw[JV]
 unfold En Ny;cases N:o.guard with
 |none=>exact I s rfl (by simp[BD,N])
 |some jw=>
  obtain⟨j,want⟩:=jw;dsimp only;cases O:ops[j]? with
  |none=>unfold BV BD at h;rw[N]at h;dsimp only at h;rw[O]at h;simp at h
  |some oj=>
   dsimp only;cases T:oj.dst with
   |none=>unfold BV BD at h;rw[N]at h;dsimp only at h;rw[O]at h;dsimp only at h;rw[T]at h;simp at h
   |some t=>
    dsimp only;split
    ·rename_i g E;have J:BD ops o s.tmps=some (g==want):=by simp only[BD,N,O,T,E]
     have D:∀b,g=b->(⟨setL s.tmps t (.c (.bool b)),s.aB,s.aC⟩:St)=s:=by
      rintro b rfl;rw[Qww E (by simp)]
     cases g
     ·simp only[ao];rw[EE];dsimp only;cases want
      ·exact I _ (D false rfl) (by rw[J];rfl)
      ·exact G _ (D false rfl) (by rw[J];rfl)
     ·simp only[ai];rw[EE];dsimp only;cases want
      ·exact G _ (D true rfl) (by rw[J];rfl)
      ·exact I _ (D true rfl) (by rw[J];rfl)
    ·rename_i E;exact G _ rfl (by simp only[BD,N,O,T,E])
    ·rename_i V S;have J:BD ops o s.tmps=none:=by
      unfold BD;rw[N];dsimp only;rw[O];dsimp only;rw[T];dsimp only;split
      ·rename_i g E;exact(V g E).elim
      ·rename_i E;exact(S E).elim
      ·rfl
     unfold BV at h;rw[J]at h;simp at h
theorem Rel.wf {s:St} {tmps:Array Value} (h:Rel Z s tmps w):WFst s:=by
 obtain⟨ρ,h⟩:=h;exact⟨h.wt,h.wb⟩
structure Left (P : Program) (C : Cfg) (ops : Array Oper) (m : List Nat) (listed : Array Bool) (rem : List (Nat × Oper × Option Prim)) : Prop where
 sz:listed.size=ops.size
 op:∀x∈rem,ops[x.1]? =some x.2.1/\(C5 ops.toList m x.1||Prim.simple x.2.2)=true/\∀e∈x.2.1.after,Region.binds .any e=true->e.on<x.1
 out:∀i,i<ops.size->(listed.getD i true=false↔∃x∈rem,x.1=i)
 ord:(rem.map (·.1)).Pairwise (· < ·)
 cl:∀j o,ops[j]? =some o->listed.getD j false=true->∀e∈o.after,Region.binds .any e=true->listed.getD e.on false=true
 pr:∀pre x post,rem=pre++x::post->∀y∈pre,Before ops.toList x.1 y.1\/(C5 ops.toList m x.1=false/\C5 ops.toList m y.1=false/\Oper.apart ops y.2.1 x.2.1=true/\Prim.meet C.ro y.2.2 x.2.2=false/\Ha y.2.1 y.2.2 x.2.1 x.2.2=true)
theorem Qvi (J:Aj P C) (a8:∀t∈C.eqOk,P.stoodInHeld t=false) {ops:Array Oper} {m:List Nat} {Q:Exit->Act->World->Prop} {sf:St} {d0:List Deferred}
  (hq:∀(a:Act) (w:World),Rel Z sf a.tmps w->a.defers=d0->Q .normal a w):
  ∀(fuel:Nat) (listed:Array Bool) (rem:List (Nat×Oper×Option Prim)) (s:St) (a:Act) (w:World),rem.length=fuel->Left P C ops m listed rem->O8 P C ops.toList m rem s sf->WFst s->Rel Z s a.tmps w->a.defers=d0->
  wpAny P .any ops Q fuel listed a w
 |0,listed,rem,s,a,w,hl,I,M,a9,hR,hd=>by
  have hr:rem=[]:=cz hl;subst hr;have:s=sf:=M;subst this;refine⟨?_,hq a w hR hd⟩;apply List.eq_nil_iff_forall_not_mem.2;intro i hi;obtain⟨h1,o,U,_⟩:=mem_ready.1 hi;obtain⟨x,hx,_⟩:=(I.out i (da.1 U).1).1 h1;simp at hx
 |fuel+1,listed,rem,s,a,w,hl,I,M,a9,hR,hd=>by
  refine⟨λb0=> ?_,λi hi=> ?_⟩
  ·exfalso;cases rem with
   |nil=>simp at hl
   |cons x rem=>
    obtain⟨h1,_,U⟩:=I.op x (by simp);have V:x.1<ops.size:=(da.1 h1).1;have:x.1∈Region.ready .any ops listed:=by
     refine mem_ready.2 ⟨(I.out x.1 V).2 ⟨x,by simp,rfl⟩,x.2.1,h1,λe he hb=> ?_⟩;have c9:=U e he hb;cases hle:listed.getD e.on false with
     |true=>rfl
     |false=>
      have a1:e.on<listed.size:=by rw[I.sz];omega
      have:listed.getD e.on true=false:=by
       rw[Array.getD,dif_pos a1]at hle⊢;exact hle
      obtain⟨y,E,d1⟩:=(I.out e.on (by omega)).1 this;have G:=I.ord;simp only[ba,List.pairwise_cons]at G;simp only[az]at E;rcases E with rfl|E
      ·omega
      ·have:=G.1 y.1 (List.mem_map_of_mem E);omega
    rw[b0]at this;simp at this
  ·obtain⟨h1,o,U,h3⟩:=mem_ready.1 hi;have Y:i<ops.size:=(da.1 U).1;obtain⟨x,hx,b9⟩:=(I.out i Y).1 h1;subst b9;obtain⟨b1,b2,d2⟩:=I.op x hx;have c0:o=x.2.1:=by rw[U]at b1;simpa using b1
   subst c0;obtain⟨pre,post,D⟩:=List.append_of_mem hx;have b3:∀y∈rem,listed.getD y.1 false=false:=by
    intro y E;have V:y.1<ops.size:=(da.1 (I.op y E).1).1;have:=(I.out y.1 V).2 ⟨y,E,rfl⟩;have a1:y.1<listed.size:=by rw[I.sz];exact V
    rw[Array.getD,dif_pos a1]at this⊢;exact this
   have a2:∀y∈pre,C5 ops.toList m x.1=false/\C5 ops.toList m y.1=false/\Oper.apart ops y.2.1 x.2.1=true/\Prim.meet C.ro y.2.2 x.2.2=false/\Ha y.2.1 y.2.2 x.2.1 x.2.2=true:=by
    intro y E;rcases I.pr pre x post D y E with hr|hr
    ·exfalso;have b4:=b3 y (by rw[D];simp[E]);have b5:∀(i j:Nat),Before ops.toList i j->(∀oi,ops[i]? =some oi->∀e∈oi.after,Region.binds .any e=true->listed.getD e.on false=true)->listed.getD j false=true:=by
      intro i j c1;induction c1 with
      |one ho he hb=>intro a3;exact a3 _ (by simpa using ho) _ (by simpa using he) hb
      |more ho he hb _ ih=>
       intro a3;have c2:=a3 _ (by simpa using ho) _ (by simpa using he) hb;exact ih λoe c3 e2 c4 c5=>I.cl _ oe c3 c2 e2 c4 c5
     have:=b5 x.1 y.1 hr λoi a4 e he hb=>by
      rw[U]at a4;simp at a4;subst a4;exact h3 e he hb
     rw[this]at b4;simp at b4
    ·exact hr
   rw[D]at M;obtain⟨s1,O,a5⟩:=Qk9 J pre s a9 M a2;have hex:∃b,En P C b ops.toList x.2.1 s (λpo s'=>(some (po,s'):Option (Option Prim×St)))=some (x.2.2,s1):=by
    unfold GX at O;cases hw:C5 ops.toList m x.1
    ·rw[ab (by rw[hw];simp)]at O;rw[hw]at b2;exact⟨false,Zkq J O (by simpa using b2) _⟩
    ·rw[aa hw]at O;exact⟨true,O⟩
   obtain⟨b,hex⟩:=hex;have X := Qne (Q := Q) (next := wpAny P .any ops Q fuel (listed.setIfInBounds x.1 true)) J a8 hR hex (λpo s' a' w' hK b6 c6 => by
    simp at hK;obtain⟨rfl,rfl⟩:=hK;refine Qvi J a8 hq fuel _ (pre++post) _ a' w' ?_ ?_ a5 b6.wf b6 (c6.trans hd)
    ·rw[D]at hl;simp at hl⊢;omega
    ·have a0:∀y,y∈pre++post->y∈rem:=by
      intro y E;rw[D];simp at E⊢;rcases E with E|E<;>simp[E]
     have c7:∀y∈pre++post,y.1≠x.1:=by
      intro y E;have G:=I.ord;rw[D]at G;simp only[bh,ba,List.pairwise_append,List.pairwise_cons]at G;obtain⟨o1,⟨o2,o3⟩,o4⟩:=G;simp at E;rcases E with E|E
      ·have:=o4 y.1 (List.mem_map_of_mem E) x.1 (by simp);omega
      ·have:=o2 y.1 (List.mem_map_of_mem E);omega
     have hg:∀(j:Nat) (d:Bool),(listed.setIfInBounds x.1 true).getD j d=if j=x.1 then true else listed.getD j d:=by
      intro j d;by_cases S:j=x.1
      ·subst S;have:x.1<listed.size:=by rw[I.sz];exact Y
       simp[Array.getD,this]
      ·rw[ab S];exact getD_set_ne d (λe=>S e.symm)
     refine⟨by simpa using I.sz,λy E=>I.op y (a0 y E),λj S=> ?_,?_,?_,?_⟩
     ·rw[hg];constructor
      ·intro hh;split at hh
       ·simp at hh
       ·rename_i a6;obtain⟨y,E,b7⟩:=(I.out j S).1 hh;refine⟨y,?_,b7⟩;rw[D]at E;simp at E⊢;rcases E with E|rfl|E
        ·exact .inl E
        ·exact absurd b7.symm a6
        ·exact .inr E
      ·rintro⟨y,E,rfl⟩;rw[ab (c7 y E)];exact(I.out y.1 S).2 ⟨y,a0 y E,rfl⟩
     ·have G:=I.ord;rw[D]at G;simp only[bh,ba,List.pairwise_append,List.pairwise_cons]at G⊢;obtain⟨o1,⟨o2,o3⟩,o4⟩:=G;exact⟨o1,o3,λu hu v hv=>o4 u hu v (by simp[hv])⟩
     ·intro j oj S a7 e he hb;rw[hg]at a7⊢;split
      ·rfl
      ·split at a7
       ·rename_i a6;subst a6;rw[U]at S;simp at S;subst S;exact h3 e he hb
       ·exact I.cl j oj S a7 e he hb
     ·intro b8 z T c8 y E
      have:∃N L,rem=N++z::L/\y∈N:=by
       rcases List.append_eq_append_iff.1 c8 with⟨as,e1,e2⟩|⟨bs,e1,e2⟩
       ·
        refine⟨pre++x::as,T,by rw[D,e2];simp,?_⟩;rw[e1]at E;simp at E⊢;rcases E with E|E
        ·exact .inl E
        ·exact .inr (.inr E)
       ·cases bs with
        |nil=>
         simp at e1 e2;refine⟨pre++[x],T,?_,?_⟩
         ·rw[D,<-e2];simp
         ·rw[e1];simp[E]
        |cons b bs=>
         simp at e2;obtain⟨rfl,e2⟩:=e2;exact⟨b8,bs++x::post,by rw[D,e1];simp,E⟩
      obtain⟨N,L,q1,q2⟩:=this;exact I.pr N z L q1 y q2)
   unfold wpOp;rw[U];dsimp only;split
   ·rename_i hw;rw[aa hw]at X;exact .inl X
   ·rename_i hw;rw[ab hw]at X;exact X
end
open Go.RowKit
section
variable {P:Program} {C:Cfg} {w:World} {R:Type} {Z:Base}
theorem Zre {c a:Bool} (h:(bif c then a else false)=true):c=true/\a=true:=by cases c<;>simp at h;exact⟨rfl,h⟩
theorem Qx6 {ops:Array Oper} {m:List Nat}:∀(ps D:List (Nat×Oper×Option Prim)) (i:Nat),ps.map (·.1)=List.range' i ps.length->Ij C ops m i D (ps.map (·.2))=true->
  ∀pre x post,ps=pre++x::post->(C5 ops.toList m x.1||Prim.simple x.2.2)=true/\(∀e∈x.2.1.after,Region.binds .any e=true->e.on<x.1)/\
   ∀y∈D++pre,JJ m x.1 y.1=true\/(C5 ops.toList m x.1=false/\C5 ops.toList m y.1=false/\Oper.apart ops y.2.1 x.2.1=true/\Prim.meet C.ro y.2.2 x.2.2=false/\Ha y.2.1 y.2.2 x.2.1 x.2.2=true)
 |[],D,i,_,_,pre,x,post,h=>by simp at h
 |(j,o,p)::ps,D,i,E,G,pre,x,post,h=>by
  simp only[ba,bf,List.range'_succ,fh]at E;obtain⟨rfl,E⟩:=E;simp only[ba,Ij]at G;generalize N:((C5 ops.toList m j||Prim.simple p)&&o.after.toList.all (λe=> !(Region.binds .any e)||Nat.blt e.on j)&&Ai (λy:Nat×Oper×Option Prim=>JJ m j y.1||(!(C5 ops.toList m j)&& !(C5 ops.toList m y.1)&&(Oper.apart ops y.2.1 o&& !(Prim.meet C.ro y.2.2 p)&&Ha y.2.1 y.2.2 o p))) D)=c at G;cases c
  ·simp at G
  ·simp only[ai]at G;simp only[al]at N;obtain⟨⟨O,S⟩,T⟩:=N;cases pre with
   |nil=>
    simp at h;obtain⟨rfl,rfl⟩:=h;refine⟨O,λe he hb=> ?_,λy I=> ?_⟩
    ·have:=List.all_eq_true.1 S e (by simpa using he);rw[hb]at this;simpa using this
    ·simp at I;have:=As.1 T y I;rw[ip]at this;simp only[al,gx]at this;rcases this with h|⟨⟨U,V⟩,⟨J,L⟩,M⟩
     ·exact .inl h
     ·exact .inr ⟨U,V,J,L,M⟩
   |cons q pre=>
    simp at h;obtain⟨rfl,rfl⟩:=h;obtain⟨J,L,M⟩:=Qx6 (pre++x::post) (D++[(j,o,p)]) (j+1) E G pre x post rfl;refine⟨J,L,λy I=>M y ?_⟩;simpa using I
theorem Qku {ops:Array Oper} {m:List Nat}:∀(l:List (Oper×Option Prim)) (D:List (Nat×Oper×Option Prim)) (i:Nat),Ij C ops m i D l=true->∀(j:Nat) (q:Oper×Option Prim),l[j]? =some q->(C5 ops.toList m (i+j)||Prim.simple q.2)=true
 |[],_,_,_,j,q,E=>by simp at E
 |(o,p)::l,D,i,h,j,q,E=>by
  simp only[Ij]at h;obtain⟨G,h⟩:=Zre h;simp only[al]at G;cases j with
  |zero=>simp at E;subst E;exact G.1.1
  |succ j=>
   rw[show i+(j+1)=i+1+j from by omega];exact Qku l _ _ h j q (by simpa using E)
theorem Rel.drew {s:St} {tmps:Array Value} (h:Rel Z s tmps w):Rel Z s tmps {w with drawn:=w.drawn+1}:=by
 obtain⟨ρ,h⟩:=h;have D:∀(a:AC) (x:Value),CC ρ w a x->CC ρ {w with drawn:=w.drawn+1} a x:=λa x E=>CC.mono (w:=w) (w':={w with drawn:=w.drawn+1}) (λ_ h=>h) (λ_ _=>rfl) a x (AC.agree_refl rfl rfl rfl a) E;refine⟨ρ,h.tl,λi v L=>TVR.mono D v _ (h.tv i v L),h.wt,h.wb,?_,h.bi,?_,h.ri,h.br,h.ib,h.fr.drew,h.fs,h.i0,h.i1,h.k0⟩
 ·intro k b M;obtain⟨arr,G,I,J⟩:=h.bx k b M;exact⟨arr,G,I.mono λa _ x E=>D a x E,J⟩
 ·intro id r N;obtain⟨G,I,O,xs,J,S⟩:=h.ro id r N;exact⟨G,I,O,xs,Kk J (λ_ _=>rfl),RowC.mono (w:=w) (λ_ h=>h) (λ_ _=>rfl) S⟩
theorem Q7w (D:Aj P C) (M:∀t∈C.eqOk,P.stoodInHeld t=false) (N:P.follows .mixedOrders=true) {id:Nat} {ops:Array Oper} {draw:Bool} {s:St} {a:Act} (Y:Rel Z s a.tmps w) {K:St->Option R} {r:R}
  (h:We P C ops draw s K=some r) {Q:Exit->Act->World->Prop} (hq:∀(s':St) (O:Act) (w':World),K s'=some r->Rel Z s' O.tmps w'->O.defers=a.defers->Q .normal O w'):
  (Code.region id ops draw).wp P Q a w:=by
 cases draw
 ·exact wp_region_list (Qyi D M _ s a w Y h hq)
 ·simp only[We,ai]at h;refine wp_region_any N ?_;obtain⟨m,h,hm⟩:=Qsf (ops:=ops.toList) ops.toList [] [] rfl rfl (λi j S=>by simp at S) h;rcases WN D ops.toList 0 s _ r h with⟨ps,sf,T,q2,q3,X⟩|⟨acc,sf,T,j,q,q2,q3⟩
  ·cases U:Ij C ops m 0 [] (ps.map (·.2))<;>rw[U]at X
   ·simp at X
   ·simp only[ai]at X;have hlen:ps.length=ops.size:=by have:=ie List.length T;simpa using this
    have E:ps.map (·.1)=List.range' 0 ps.length:=by rw[q2];simp[hlen]
    have V:=Qx6 ps [] 0 E U;have I:∀(i:Nat) (x:Nat×Oper×Option Prim),ps[i]? =some x->x.1=i/\ops[i]? =some x.2.1:=by
     intro i x J;have L:(ps.map (·.1))[i]? =some x.1:=by simp[J]
     have h2:(ps.map (·.2.1))[i]? =some x.2.1:=by simp[J]
     rw[E,List.getElem?_range']at L;rw[T]at h2
     ·simp at L;exact⟨by omega,by simpa using h2⟩
     ·exact(d9.1 J).1
    refine Qvi D M (m:=m) (sf:=sf) (d0:=a.defers) (λO w' a0 a1=>hq sf O w' X a0 a1) ops.size _ ps s a _ hlen ?_ q3 Y.wf Y.drew rfl;refine⟨by simp,λx J=> ?_,λi S=> ?_,?_,?_,?_⟩
    ·obtain⟨pre,post,hs⟩:=List.append_of_mem J;obtain⟨c1,c2,_⟩:=V pre x post hs;obtain⟨i,S⟩:=List.getElem?_of_mem J;obtain⟨p1,p2⟩:=I i x S;exact⟨by rw[p1];exact p2,c1,c2⟩
    ·constructor
     ·intro _;have G:i<ps.length:=by omega
      exact⟨ps[i],bv G,(I i ps[i] (an G)).1⟩
     ·intro _;simp[Array.getD,S]
    ·rw[E];exact List.pairwise_lt_range'
    ·intro j o hj hl;have G:j<ops.size:=(da.1 hj).1;simp[Array.getD,G]at hl
    ·intro pre x post hs y hy;rcases(V pre x post hs).2.2 y (by simpa using hy)with L|L
     ·exact .inl (hm _ _ L)
     ·exact .inr L
  ·cases U:Ij C ops m 0 [] acc<;>rw[U]at T
   ·simp at T
   ·have:=Qku acc [] 0 U j q q2;rw[q3]at this;simp at this
def Nl:Ex->Exit
 | .normal=> .normal
 | .exit id=> .exit id
 | .ret=> .ret
def HP (Z:Base) (K:Ex->St->Option R) (r:R) (d:List Deferred):Exit->Act->World->Prop:=
 λe a w=>∃D s,Nl D=e/\K D s=some r/\Rel Z s a.tmps w/\a.defers=d
theorem Q2b {step:St->(Ex->St->Option R)->Option R} {body:Code} {K:Ex->St->Option R} {r:R} {d:List Deferred}
  (D:∀(s:St) (a:Act) (w:World) (L:Ex->St->Option R),Rel Z s a.tmps w->a.defers=d->step s L=some r->body.wp P (HP Z L r d) a w):
  ∀(n:Nat) (s:St) (a:Act) (w:World),Rel Z s a.tmps w->a.defers=d->NG P C step n s K=some r->Code.rounds P body (HP Z K r d) n a w
 |0,s,a,w,M,N,h=>by simp[NG]at h
 |n+1,s,a,w,M,N,h=>by
  rw[NG]at h;rw[rounds_succ];refine wp_mono (D s a w _ M N h) ?_;rintro e O w' ⟨S,s2,rfl,I,E,G⟩;cases S with
  |normal=>
   obtain⟨T,U,J⟩:=O0 E I;exact Q2b D n T O w' J G U
  |exit id=>exact⟨.exit id,s2,rfl,I,E,G⟩
  |ret=>exact⟨.ret,s2,rfl,I,E,G⟩
def InZ (Z:Base):Prop:=∀k b,Z.K0 k=some b->CR k=true
def HT (P:Program) (c:Code) (sk:Sk) (g:Hs):Prop:=
 ∀(Z:Base) (_:InZ Z) (a:Act) (w:World) (vars:List AC) (R:Type) (K:Ex->St->Option R) (r:R),Rel Z (Ce sk vars) a.tmps w->g R vars K=some r->c.wp P (HP Z K r a.defers) a w
structure SubOK (P : Program) (C : Cfg) (c : Code) (blk : Nat) : Prop where
 l:∀p∈AN c blk,∀sk g,C.loops p.1=some (sk,g)->HT P (.loop p.2) sk g
 b:∀p∈A5 c,∀sk g,C.blocks p.1=some (sk,g)->HT P (.block p.1 p.2) sk g
 c:∀p∈A8 c blk,∀sk g,C.conds p.1=some (sk,g)->HT P (.cond (.tmp p.1) p.2.2.1 p.2.2.2) sk g
theorem GO:∀(c:Code) (b b':Nat),AN c b=AN c b'
 | .seq x y,b,b'=>by simp only[AN,GO x b b',GO y b b']
 | .cond _ x y,b,b'=>by simp only[AN,GO x b b',GO y b b']
 | .block _ x,b,b'=>by simp only[AN,GO x b b']
 | .loop x,b,b'=>by simp only[AN,GO x b b']
 | .skip,_,_=>rfl
 | .region _ _ _,_,_=>rfl
 | .exit _,_,_=>rfl
 | .ret,_,_=>rfl
 | .rangeFunc _ _ _ _,_,_=>rfl
 | .scope x,b,b'=>by simp only[AN,GO x b b']
 | .label _,_,_=>rfl
 | .goto _,_,_=>rfl
 | .refuse _,_,_=>rfl
theorem Hg:∀(c:Code) (b b':Nat),A8 c b=A8 c b'
 | .seq x y,b,b'=>by simp only[A8,Hg x b b',Hg y b b']
 | .cond c x y,b,b'=>by cases c<;>simp only[A8,Hg x b b',Hg y b b']
 | .block _ x,b,b'=>by simp only[A8,Hg x b b']
 | .loop x,b,b'=>by simp only[A8,Hg x b b']
 | .skip,_,_=>rfl
 | .region _ _ _,_,_=>rfl
 | .exit _,_,_=>rfl
 | .ret,_,_=>rfl
 | .rangeFunc _ _ _ _,_,_=>rfl
 | .scope x,b,b'=>by simp only[A8,Hg x b b']
 | .label _,_,_=>rfl
 | .goto _,_,_=>rfl
 | .refuse _,_,_=>rfl
theorem SubOK.any {c:Code} (b:Nat) {b':Nat} (h:SubOK P C c b):SubOK P C c b':=
 ⟨λp D=>h.l p (by rw[GO c b b'];exact D),h.b,λp D=>h.c p (by rw[Hg c b b'];exact D)⟩
theorem YY {c:Code} {told:Option (Sk×Hs)} {s:St} {a:Act} {K:Ex->St->Option R} {r:R} {d:List Deferred} {run:Option R} (J:InZ Z)
  (L:∀sk g,told=some (sk,g)->HT P c sk g) (E:Rel Z s a.tmps w) (M:a.defers=d) (h:OX told s K run=some r) (D:run=some r->c.wp P (HP Z K r d) a w):c.wp P (HP Z K r d) a w:=by
 unfold OX at h;split at h
 ·exact D h
 ·rename_i sk g;obtain⟨G,I⟩:=BI h;split at I
  ·rename_i vars N;obtain⟨ρ,E⟩:=E;obtain⟨tm,aB,aC⟩:=s;subst M;exact L sk g rfl Z J a w vars R K r ⟨ρ,E.rebuild J G N⟩ I
  ·simp at I
theorem Qzq {ρ:Env} {d:Nat} {a:AC} {x:Value} (h:CC ρ w a x):CC ρ w (a.killP d) x:=by
 cases a with
 |ptr k o=>simp only[AC.killP];cases Nat.beq k d<;>first|exact h|exact h.one
 |bsl k o=>simp only[AC.killP];cases Nat.beq k d<;>first|exact h|exact h.one
 |clo f fs cs=>simp only[AC.killP];cases(Ai (IG d) fs&&Ai (IG d) cs)<;>first|exact h|exact h.one
 |_=>exact h
theorem RJ {ρ:Env} {f:AC->AC} (hf:∀(a:AC) (x:Value),CC ρ w a x->CC ρ w (f a) x):∀{l:List AC} {xs:List Value},CL (CC ρ w) l xs->CL (CC ρ w) (l.map f) xs
 |[],[],_=>trivial
 |_::_,_::_,h=>⟨hf _ _ h.1,RJ hf h.2⟩
 |[],_::_,h=>h.elim
 |_::_,[],h=>h.elim
theorem Zuz {ρ:Env} {f:AC->AC} (hf:∀(a:AC) (x:Value),CC ρ w a x->CC ρ w (f a) x) {v:TV} {x:Value} (h:TVR ρ w v x):TVR ρ w (v.mapC f) x:=by
 cases v with
 |dead=>trivial
 |tup ps=>
  obtain⟨E,rfl,D⟩:=h;refine⟨E,rfl,?_⟩;generalize E.toList=l at D;induction ps generalizing l with
  |nil=>cases l<;>first|exact D|exact D.elim
  |cons p ps J=>
   cases l with
   |nil=>exact D.elim
   |cons y l=>
    obtain⟨g,cs⟩:=p;refine⟨?_,J l D.2⟩;have:=D.1;cases g
    ·obtain⟨a,G,I⟩:=this;subst G;exact⟨_,rfl,hf _ _ I⟩
    ·obtain⟨L,G,M⟩:=this;exact⟨L,G,RJ hf M⟩
 |v g cs=>
  cases g
  ·obtain⟨a,rfl,I⟩:=h;exact⟨_,rfl,hf _ _ I⟩
  ·obtain⟨E,rfl,D⟩:=h;exact⟨E,rfl,RJ hf D⟩
theorem RelE.forget {tm:List TV} {aB:List (Nat×Box)} {aC:List (Nat×Row)} {ρ:Env} {tmps:Array Value} (h:RelE Z tm aB aC ρ tmps w) {d:Nat} (hd:∀b,Z.K0 d≠some b):
  RelE Z (tm.map (TV.mapC (AC.killP d))) ((del d aB).map λp=>(p.1,(⟨p.2.ty,p.2.cells.map (AC.killP d)⟩:Box))) aC ρ tmps w:=by
 have N:∀k,Ab ((del d aB).map λp=>(p.1,(⟨p.2.ty,p.2.cells.map (AC.killP d)⟩:Box))) k=(Ab (del d aB) k).map λb=>⟨b.ty,b.cells.map (AC.killP d)⟩:=λk=>ED (λb:Box=>(⟨b.ty,b.cells.map (AC.killP d)⟩:Box)) _ k;have E:∀(k:Nat) (b:Box),Ab ((del d aB).map λp=>(p.1,(⟨p.2.ty,p.2.cells.map (AC.killP d)⟩:Box))) k=some b->k≠d/\∃b',Ab aB k=some b'/\b=⟨b'.ty,b'.cells.map (AC.killP d)⟩:=by
  intro k b D;rw[N]at D;simp only[bg]at D;obtain⟨b',T,rfl⟩:=D;obtain⟨U,V⟩:=JO T;exact⟨U,b',V,rfl⟩
 have I:∀(k:Nat) (b:Box),k≠d->Ab aB k=some b->∃b',Ab ((del d aB).map λp=>(p.1,(⟨p.2.ty,p.2.cells.map (AC.killP d)⟩:Box))) k=some b':=λk b X D=>⟨_,by rw[N,Iz _ _ _ X,D];rfl⟩;have O:∀a,IG d a=true->AC.wfP aB a->AC.wfP ((del d aB).map λp=>(p.1,(⟨p.2.ty,p.2.cells.map (AC.killP d)⟩:Box))) a:=by
  intro a hn G;cases a<;>try exact trivial
  rename_i k o;obtain⟨b,hb⟩:=G;simp only[IG,gx]at hn;exact I k b (FP hn) hb
 have L:∀a,AC.wf aB aC a->AC.wf ((del d aB).map λp=>(p.1,(⟨p.2.ty,p.2.cells.map (AC.killP d)⟩:Box))) aC (a.killP d):=by
  intro a G;cases a with
  |ptr k o=>
   simp only[AC.killP];cases D:Nat.beq k d
   ·obtain⟨b,hb⟩:=G;exact I k b (FP D) hb
   ·exact trivial
  |bsl k o=>
   simp only[AC.killP];cases D:Nat.beq k d
   ·obtain⟨b,hb⟩:=G;exact I k b (FP D) hb
   ·exact trivial
  |clo f fs cs=>
   simp only[AC.killP];cases J:(Ai (IG d) fs&&Ai (IG d) cs)
   ·exact trivial
   ·simp only[al]at J;exact⟨λa h'=>O a (As.1 J.1 a h') (G.1 a h'),λa h'=>O a (As.1 J.2 a h') (G.2 a h')⟩
  |_=>exact G
 refine⟨by simpa using h.tl,?_,?_,?_,?_,?_,h.ro,h.ri,?_,?_,h.fr,h.fs,h.i0,h.i1,?_⟩
 ·intro i v hi;simp only[eg,bg]at hi;obtain⟨u,Y,rfl⟩:=hi;exact Zuz (λ_ _=>Qzq) (h.tv i u Y)
 ·intro v hv;simp only[av]at hv;obtain⟨u,Y,rfl⟩:=hv;have:=h.wt u Y;cases u with
  |dead=>trivial
  |v g cs=>
   intro a G;simp only[av]at G;obtain⟨c,J,rfl⟩:=G;exact L c (this c J)
  |tup ps=>
   intro p hp a G;simp only[av]at hp;obtain⟨q,hq,rfl⟩:=hp;simp only[av]at G;obtain⟨c,J,rfl⟩:=G;exact L c (this q hq c J)
 ·intro k b D a G;obtain⟨_,b',M,rfl⟩:=E k b D;simp only[av]at G;obtain⟨c,J,rfl⟩:=G;exact L c (h.wb k b' M c J)
 ·intro k b D;obtain⟨_,b',M,rfl⟩:=E k b D;obtain⟨arr,T,U,V⟩:=h.bx k b' M;exact⟨arr,T,RJ (λ_ _=>Qzq) U,V⟩
 ·intro k k' b b' D a0;obtain⟨_,_,S,_⟩:=E k b D;obtain⟨_,_,p2,_⟩:=E k' b' a0;exact h.bi k k' _ _ S p2
 ·intro k b j q D hq;obtain⟨_,_,S,_⟩:=E k b D;exact h.br k _ j q S hq
 ·intro b hb;obtain⟨q1,q2,q3⟩:=h.ib b hb;exact⟨q1,λk bo D=>by obtain⟨_,_,p,_⟩:=E k bo D;exact q2 k _ p,q3⟩
 ·intro k b D;obtain⟨S,bo,p2⟩:=h.k0 k b D;exact⟨S,I k bo (by rintro rfl;exact hd b D) p2⟩
theorem XZ (E:InZ Z) {tmps:Array Value} {K:St->Option R} {r:R}:∀(l:List Nat) (s:St),Rel Z s tmps w->Pg l s K=some r->∃I,K I=some r/\Rel Z I tmps w
 |[],s,D,h=>⟨s,h,D⟩
 |d::l,⟨tm,aB,aC⟩,D,h=>by
  simp only[Pg]at h;split at h
  ·exact XZ E l _ D h
  ·cases G:CR d<;>rw[G]at h
   ·simp only[ao,A2]at h;obtain⟨ρ,D⟩:=D;exact XZ E l _ ⟨ρ,D.forget (d:=d) λb hb=>by rw[E d b hb]at G;cases G⟩ h
   ·simp at h
theorem FO (D:Aj P C) (S:∀t∈C.eqOk,P.stoodInHeld t=false) (J:P.follows .mixedOrders=true) (X:InZ Z) {r:R} {d:List Deferred}:
  ∀(c:Code) (L blk:Nat) (s:St) (a:Act) (w:World) (K:Ex->St->Option R),SubOK P C c blk->Rel Z s a.tmps w->a.defers=d->C6 P C L c blk s K=some r->c.wp P (HP Z K r d) a w
 | .skip,L,blk,s,a,w,K,G,M,N,h=>wp_skip ⟨.normal,s,rfl,h,M,N⟩
 | .region id ops draw,L,blk,s,a,w,K,G,M,N,h=>by
  rw[C6]at h;obtain⟨s0,h,M⟩:=XZ X _ s M h;exact Q7w D S J M h λU a' w' T I O=>⟨.normal,U,rfl,T,I,O.trans N⟩
 | .seq x y,L,blk,s,a,w,K,G,M,N,h=>by
  rw[C6]at h;refine wp_seq (wp_mono (FO D S J X x L blk s a w _ ⟨λp E=>G.l p (by simp[AN,E]),λp E=>G.b p (by simp[A5,E]),λp E=>G.c p (by simp[A8,E])⟩ M N h) ?_);rintro e a' w' ⟨ae,U,rfl,T,I,O⟩;cases ae with
  |normal=>exact FO D S J X y L blk U a' w' K ⟨λp E=>G.l p (by simp[AN,E]),λp E=>G.b p (by simp[A5,E]),λp E=>G.c p (by simp[A8,E])⟩ I O T
  |exit id=>exact⟨.exit id,U,rfl,T,I,O⟩
  |ret=>exact⟨.ret,U,rfl,T,I,O⟩
 | .cond c x y,L,blk,s,a,w,K,G,M,N,h=>by
  have hx:SubOK P C x blk:=⟨λp E=>G.l p (by simp[AN,E]),λp E=>G.b p (by simp[A5,E]),λp E=>G.c p (by cases c<;>simp[A8,E])⟩;have hy:SubOK P C y blk:=⟨λp E=>G.l p (by simp[AN,E]),λp E=>G.b p (by simp[A5,E]),λp E=>G.c p (by cases c<;>simp[A8,E])⟩;rw[C6]at h;refine YY (c:= .cond c x y) X ?_ M N h λV=> ?_
  ·intro sk g ht;unfold Qv5 at ht;split at ht
   ·rename_i t;exact G.c (t,0,x,y) (by simp[A8]) sk g ht
   ·simp at ht
  ·split at V
   ·rename_i g hg;have hc:a.eval c= .bool g:=by
     obtain⟨ρ,Y⟩:=M;have:=Qv4 Y c;rw[hg]at this;exact this.bool
    refine wp_cond hc ?_;split at V
    ·rename_i t;have a0:∀b,g=b->Rel Z ⟨setL s.tmps t (.c (.bool b)),s.aB,s.aC⟩ a.tmps w:=by
      rintro b rfl;obtain⟨ρ,Y⟩:=M;exact⟨ρ,Y.learn t (by have e:a.tmps.getD t undef= .bool g:=hc;rw[e];exact TVR.mkBool _) (E_ _)⟩
     cases g
     ·simp only[ao]at V;rw[EE]at V;exact FO D S J X y L blk _ a w K hy (a0 false rfl) N V
     ·simp only[ai]at V;rw[EE]at V;exact FO D S J X x L blk _ a w K hx (a0 true rfl) N V
    ·cases g
     ·exact FO D S J X y L blk s a w K hy M N V
     ·exact FO D S J X x L blk s a w K hx M N V
   ·simp at V
 | .block id body,L,blk,s,a,w,K,G,M,N,h=>by
  have hb:SubOK P C body id:=SubOK.any blk ⟨λp E=>G.l p (by simp[AN,E]),λp E=>G.b p (by simp[A5,E]),λp E=>G.c p (by simp[A8,E])⟩;rw[C6]at h;refine YY (c:= .block id body) X (G.b (id,body) (by simp[A5])) M N h λV=> ?_;refine wp_block (wp_mono (FO D S J X body L id s a w _ hb M N V) ?_);rintro e a' w' ⟨ae,U,rfl,T,I,O⟩;cases ae with
  |normal=>exact⟨.normal,U,rfl,T,I,O⟩
  |exit i=>
   simp only[Nl,Exit.inBlock];dsimp only at T;cases hb:Nat.beq i id<;>rw[hb]at T
   ·have:i≠id:=λe=>by rw[e]at hb;simp at hb
    rw[ab this];exact⟨.exit i,U,rfl,T,I,O⟩
   ·rw[aa (ac hb)];exact⟨.normal,U,rfl,T,I,O⟩
  |ret=>exact⟨.ret,U,rfl,T,I,O⟩
 | .loop body,L,blk,s,a,w,K,G,M,N,h=>by
  rw[C6]at h;obtain⟨U,h',I⟩:=P1 _ s a.tmps M _ r h;obtain⟨s1,h1,a1⟩:=O0 I h';have hb:SubOK P C body blk:=⟨λp E=>G.l p (by simp[AN,E]),λp E=>G.b p (by simp[A5,E]),λp E=>G.c p (by simp[A8,E])⟩;refine YY (c:= .loop body) X (G.l (RQ body,body) (by simp[AN])) a1 N h1 λV=> ?_;exact wp_loop_rounds L (Q2b (λs a w K' M N h=>FO D S J X body L blk s a w K' hb M N h) L s1 a w a1 N V)
 | .exit id,L,blk,s,a,w,K,G,M,N,h=>wp_exit ⟨.exit id,s,rfl,h,M,N⟩
 | .ret,L,blk,s,a,w,K,G,M,N,h=>wp_ret ⟨.ret,s,rfl,h,M,N⟩
 | .rangeFunc f ps a2 body,L,blk,s,a,w,K,G,M,N,h=>by simp[C6]at h
 | .scope b,L,blk,s,a,w,K,G,M,N,h=>by
  rw[C6]at h;refine wp_scope_straight (wp_mono (FO D S J X b L blk s a w K ⟨λp E=>G.l p (by simp[AN,E]),λp E=>G.b p (by simp[A5,E]),λp E=>G.c p (by simp[A8,E])⟩ M N h) ?_);rintro e a' w' ⟨ae,U,rfl,T,I,O⟩;cases ae with
  |normal=>exact⟨.normal,U,rfl,T,I,O⟩
  |exit i=>exact⟨.exit i,U,rfl,T,I,O⟩
  |ret=>exact⟨.ret,U,rfl,T,I,O⟩
 | .label l,L,blk,s,a,w,K,G,M,N,h=>by
  rw[C6]at h;exact wp_label ⟨.normal,s,rfl,h,M,N⟩
 | .goto l,L,blk,s,a,w,K,G,M,N,h=>by simp[C6]at h
 | .refuse a3,L,blk,s,a,w,K,G,M,N,h=>by simp[C6]at h
theorem Zsq {e D:Ex} (h:Sa e D=true):e=D:=by
 cases e<;>cases D<;>simp only[Sa]at h<;>first|rfl|(simp at h;done)|(rw[ac h])
theorem Qeu {s:St} {G:Ex} {tmps:Array Value} (J:InZ Z) (E:Rel Z s tmps w):∀{D:List (Ex×Sk)} {i n:Nat} {o:List AC},FQ D i G s=some (n,o)->
  i<=n/\∃sk,(∀(R:Type) (K:Ex->St->Option R),Ns o K D i n=K G (Ce sk o))/\Rel Z (Ce sk o) tmps w
 |[],i,n,o,h=>by simp[FQ]at h
 |(e,sk)::l,i,n,o,h=>by
  simp only[FQ]at h;cases hb:(Sa e G&&sk.okB)<;>rw[hb]at h
  ·simp only[ao]at h;obtain⟨O,I,L,M⟩:=Qeu J E h;refine⟨by omega,I,λR K=> ?_,M⟩;simp only[Ns];rw[It (by omega)];exact L R K
  ·simp only[ai]at h;simp only[al]at hb;split at h
   ·rename_i vars N;simp at h;obtain⟨rfl,rfl⟩:=h;refine⟨cq _,sk,λR K=> ?_,?_⟩
    ·simp only[Ns,gz,ai];rw[Zsq hb.1]
    ·obtain⟨ρ,E⟩:=E;obtain⟨tm,aB,aC⟩:=s;exact⟨ρ,E.rebuild J hb.2 N⟩
   ·simp at h
theorem Ziz (G:Aj P C) (X:∀t∈C.eqOk,P.stoodInHeld t=false) (N:P.follows .mixedOrders=true) {L blk:Nat} {body:Code} {sk:Sk} {D:List (Ex×Sk)} {m:List AC->Option (Nat×List AC)}
  (Y:sk.okB=true) (O:SubOK P C body blk) (hm:∀vars o,m vars=some o->∃n,CI (A4 P C L blk body sk D) n vars=some o):HT P (.loop body) sk (gOf D m):=by
 intro Z hZ a w vars R K r hR h;simp only[gOf,cr]at h;obtain⟨⟨t,o⟩,h1,h2⟩:=h;obtain⟨n,hn⟩:=hm vars _ h1;have key:∀(n:Nat) (vars:List AC) (J:Act) (w':World),Rel Z (Ce sk vars) J.tmps w'->J.defers=a.defers->CI (A4 P C L blk body sk D) n vars=some (t,o)->Code.rounds P body (HP Z K r a.defers) n J w':=by
  intro n;induction n with
  |zero=>intro vars J w' _ _ h;simp[CI]at h
  |succ n ih=>
   intro vars J w' a0 a1 h;simp only[CI,cr]at h;obtain⟨⟨t',o'⟩,q1,M⟩:=h;rw[rounds_succ];refine wp_mono (FO G X N hZ body L blk _ J w' _ O a0 a1 q1) ?_;rintro e a2 w2 ⟨ae,s',rfl,hK,S,T⟩;have E:∀U:Ex,FQ D 1 U s'=some (t',o')->HP Z K r a.defers (Nl U) a2 w2:=by
    intro U hx;obtain⟨p1,a3,p2,p3⟩:=Qeu hZ S hx;have ht:t'≠0:=by omega
    dsimp only at M;rw[ab ht]at M;simp at M;obtain⟨rfl,rfl⟩:=M;rw[p2 R K]at h2;exact⟨U,_,rfl,h2,p3,T⟩
   cases ae with
   |normal=>
    obtain⟨s3,V,I⟩:=O0 S hK;split at V
    ·rename_i vars' hv;simp at V;obtain⟨rfl,rfl⟩:=V;simp only[dc]at M;obtain⟨ρ,I⟩:=I;obtain⟨tm,aB,aC⟩:=s3;exact ih _ a2 w2 ⟨ρ,I.rebuild hZ Y hv⟩ T M
    ·simp at V
   |exit i=>exact E _ hK
   |ret=>exact E _ hK
 exact wp_loop_rounds n (key n vars a w hR rfl hn)
theorem Zon (G:Aj P C) (O:∀t∈C.eqOk,P.stoodInHeld t=false) (J:P.follows .mixedOrders=true) {L id:Nat} {body:Code} {sk:Sk} {E:List (Ex×Sk)} {m:List AC->Option (Nat×List AC)}
  (M:SubOK P C body id) (X:∀vars o,m vars=some o->Qwx P C L id body sk E vars=some o):HT P (.block id body) sk (gOf E m):=by
 intro Z U a w vars R K r Y h;simp only[gOf,cr]at h;obtain⟨⟨t,o⟩,h1,V⟩:=h;have hb:=X vars _ h1;refine wp_block (wp_mono (FO G O J U body L id _ a w _ M Y rfl hb) ?_);rintro e a' w' ⟨ae,s',rfl,I,S,T⟩;have D:∀N:Ex,FQ E 1 N s'=some (t,o)->HP Z K r a.defers (Nl N) a' w':=by
  intro N hx;obtain⟨p1,a0,p2,p3⟩:=Qeu U S hx;rw[p2 R K]at V;exact⟨N,_,rfl,V,p3,T⟩
 cases ae with
 |normal=>exact D .normal I
 |exit i=>
  simp only[Nl,Exit.inBlock];dsimp only at I;cases hb:Nat.beq i id<;>rw[hb]at I
  ·have:i≠id:=λe=>by rw[e]at hb;simp at hb
   rw[ab this];exact D (.exit i) I
  ·rw[aa (ac hb)];exact D .normal I
 |ret=>exact D .ret I
end
open Go.RowKit
section
variable {P:Program} {C:Cfg} {w:World} {R:Type} {Z:Base}
theorem RelE.slots {tm E:List TV} {aB:List (Nat×Box)} {aC:List (Nat×Row)} {ρ:Env} {tmps D:Array Value} (h:RelE Z tm aB aC ρ tmps w) (G:E.length=D.size)
  (I:∀(i:Nat) (v:TV),E[i]? =some v->TVR ρ w v (D.getD i undef)) (J:∀v∈E,TV.wf aB aC v):RelE Z E aB aC ρ D w:=
 ⟨G,I,J,h.wb,h.bx,h.bi,h.ro,h.ri,h.br,h.ib,h.fr,h.fs,h.i0,h.i1,h.k0⟩
theorem Qvp {s:St} {a:Act} {ρ:Env} (J:RelE Z s.tmps s.aB s.aC ρ a.tmps w):∀(l:List ResultVar) (ps:List (Bool×List AC)),Ja P s l=some ps->
  ∃ xs : List Value, (l.mapM fun
   | .tmp t=>pure (a.tmps.getD t undef)
   | .cell b t=>do loadVar t (<-asAddr (a.tmps.getD b undef)):Sem (List Value)).run P w= .ok xs w/\TP ρ w ps xs/\∀p∈ps,∀c∈p.2,AC.wf s.aB s.aC c
 |[],ps,h=>by simp[Ja]at h;subst h;exact⟨[],rfl,trivial,by simp⟩
 |rv::l,ps,h=>by
  simp only[Ja]at h;split at h
  ·rename_i g cs D;split at h
   ·rename_i S T;simp at h;subst h;obtain⟨xs,h1,h2,h3⟩:=Qvp J l S T;have key : ∃ x, ((match rv with
      | .tmp t=>pure (a.tmps.getD t undef)
      | .cell b t=>do loadVar t (<-asAddr (a.tmps.getD b undef)):Sem Value)).run P w= .ok x w/\TVR ρ w (.v g cs) x/\TV.wf s.aB s.aC (.v g cs):=by
     cases rv with
     |tmp t=>
      simp only[Qgw]at D;split at D
      ·rename_i X L M;simp at D;obtain⟨rfl,rfl⟩:=D;have U:t<s.tmps.length:=by
        rcases iq t s.tmps.length with G|I
        ·exact G
        ·rw[B3,List.getD,db I]at M;simp at M
       have E:s.tmps[t]? =some (.v X L):=by
        rw[B3,List.getD]at M;rw[an U]at M⊢;simpa using M
       exact⟨_,by simp,J.tv t _ E,J.wt _ (bq E)⟩
      ·simp at D
     |cell b t=>
      simp only[Qgw]at D;split at D
      ·rename_i key off X sz hb hg hs;have V:b<s.tmps.length:=by
        rcases iq b s.tmps.length with G|I
        ·exact G
        ·rw[B3,List.getD,db I]at hb;simp at hb
       have E:s.tmps[b]? =some (.c (.ptr key off)):=by
        rw[B3,List.getD]at hb;rw[an V]at hb⊢;simpa using hb
       have Y:=(J.tv b _ E).c;simp only[CC]at Y;split at D
       ·rename_i bo N;obtain⟨arr,q1,q2,q3⟩:=J.bx key bo N;obtain ⟨x, q4, q5⟩ := Se (b := ρ.bx key) (o := 0) hg hs D q2 (λj y hj => by
         simp only[dl];rw[cell_of_row w _ j arr bo.ty (0,0) q1];simpa using hj)
        rw[dl]at q4;exact⟨x,by simp[Y,asAddr,q4],q5,ON D (J.wb key bo N)⟩
       ·simp at D
      ·simp at D
    obtain⟨x,k1,k2,k3⟩:=key;refine⟨x::xs,?_,?_,?_⟩
    ·rw[List.mapM_cons];simp only[Sem.run_bind,Sem.run_pure];rw[k1];simp only[cd];rw[h1];rfl
    ·refine⟨?_,h2⟩;cases g<;>exact k2
    ·intro p O;simp only[az]at O;rcases O with rfl|O
     ·exact k3
     ·exact h3 p O
   ·simp at h
  ·simp at h
theorem NR:∀(ks:List Kd) (cs:List AC),(Dh ks cs).length=cs.length
 |[],[]=>rfl
 |[],_::_=>rfl
 | .sl _::_,[]=>rfl
 | .int _::_,[]=>rfl
 | .bool::_,[]=>rfl
 | .raw::_,[]=>rfl
 | .int _::l,_::cs=>by simp[Dh,NR l cs]
 | .bool::l,_::cs=>by simp[Dh,NR l cs]
 | .raw::l,_::cs=>by simp[Dh,NR l cs]
 | .sl _::l,a::cs=>by cases a<;>simp[Dh,NR l cs]
theorem Qoc {ρ:Env}:∀(D:List TypeId) (ps:List (Bool×List AC)) (xs:List Value),TP ρ w ps xs->TP ρ w (Gq P D ps) xs
 |[],ps,xs,h=>by simpa [Gq]using h
 |_::_,[],xs,h=>by simpa [Gq]using h
 |t::D,(g,cs)::ps,[],h=>h.elim
 |t::D,(g,cs)::ps,x::xs,h=>by
  refine⟨?_,Qoc D ps xs h.2⟩;have E:=h.1;cases O:E9 P 8 t with
  |none=>exact E
  |some ks=>
   cases g
   ·obtain⟨a,rfl,I⟩:=E;have:=IS ks [a] [x] ⟨I,trivial⟩;have G:=NR ks [a];generalize J:Dh ks [a]=l at this G;cases l with
    |nil=>simp at G
    |cons b l=>
     cases l with
     |nil=>exact⟨b,J,this.1⟩
     |cons=>simp at G
   ·obtain⟨L,M,N⟩:=E;exact⟨L,M,IS ks cs _ N⟩
theorem Qxy {aB:List (Nat×Box)} {aC:List (Nat×Row)}:∀(E:List TypeId) (ps:List (Bool×List AC)),(∀p∈ps,∀c∈p.2,AC.wf aB aC c)->∀p∈Gq P E ps,∀c∈p.2,AC.wf aB aC c
 |[],ps,h=>by simpa [Gq]using h
 |_::_,[],h=>by simp[Gq]
 |t::E,(g,cs)::ps,h=>by
  intro p D;simp only[Gq,az]at D;rcases D with rfl|D
  ·cases I:E9 P 8 t with
   |none=>exact h (g,cs) (by simp)
   |some ks=>exact KJ ks cs (h (g,cs) (by simp))
  ·exact Qxy E ps (λq G=>h q (by simp[G])) p D
theorem Qr7 {ρ:Env}:∀{ps:List (Bool×List AC)} {xs:List Value},TP ρ w ps xs->ps.length=xs.length
 |[],[],_=>rfl
 |_::_,_::_,h=>by simp[Qr7 h.2]
 |[],_::_,h=>h.elim
 |_::_,[],h=>h.elim
theorem Zec {ρ:Env} {ps:List (Bool×List AC)} {xs:List Value} (h:TP ρ w ps xs):TVR ρ w (I2 ps) (if h:xs.length=1 then xs[0]else .tuple xs.toArray):=by
 have D:=Qr7 h
 match ps,xs,h with
 |[],[],_=>exact⟨#[],rfl,trivial⟩
 |[(g,cs)],[x],h=>
  simp only[I2,ff,dite_true,List.getElem_cons_zero];have:=h.1;cases g<;>exact this
 |p::q::ps,x::y::xs,h=>
  have: ¬(x::y::xs).length=1:=by simp
  rw[dif_neg this];exact⟨_,rfl,by simpa using h⟩
theorem Q4e {keys ids:List Nat} {ps:List (Bool×List AC)} (h:Ai (λp:Bool×List AC=>Ai (AC.inK keys ids) p.2) ps=true):TV.inK keys ids (I2 ps)=true:=by
 match ps,h with
 |[],h=>exact h
 |[(g,cs)],h=>exact As.1 h (g,cs) (by simp)
 |p::q::ps,h=>exact h
theorem Q38 {aB:List (Nat×Box)} {aC:List (Nat×Row)} {ps:List (Bool×List AC)} (h:∀p∈ps,∀c∈p.2,AC.wf aB aC c):TV.wf aB aC (I2 ps):=by
 match ps,h with
 |[],h=>exact h
 |[(g,cs)],h=>exact h (g,cs) (by simp)
 |p::q::ps,h=>exact h
theorem Zqs {L:Func} {D:List Nat} {s:St} {a:Act} (hR:Rel Z s a.tmps w) (Y:∀k b,Z.K0 k=some b->k∈D) {K:TV->Mem->Option R} {r:R} (h:O5 P C L D s K=some r):
  ∃x ρ' v m,K v m=some r/\(results L a.tmps).run P w= .ok x w/\RelE Z [v] m.aB m.aC ρ' #[x] w/\(C.keepIn=true->a.tmps.getD 0 undef=ρ'.rv base):=by
 unfold O5 at h;split at h
 ·simp at h
 ·rename_i ps a4;have h1:∃s1,(GH P C s1 λs1=>match Ja P s1 L.results.toList with
    |none=>none
    |some ps=>match s1 with
     |⟨tm,aB,aC⟩=>
      bif !C.keepIn||ZI tm then
      AL (Gq P L.resultTypes.toList ps) λps=>
      AL (Jn aB 4 (AZ (cat (λp:Bool×List AC=>cat AC.keys p.2) ps) D)) λkeys=>
      AL (Lf aB (cat (λp:Bool×List AC=>p.2) ps) keys) λids=>
      AL (aB.filter λp=>AI keys p.1) λE=>
      AL (aC.filter λp=>AI ids p.1||CR p.1) λM=>
      bif Ai (λp:Bool×List AC=>Ai (AC.inK keys ids) p.2) ps&&Ai (λp:Nat×Box=>Ai (AC.inK keys ids) p.2.cells) E&&Ai (DA aB) D&&Ai (AI keys) D then K (I2 ps) (⟨E,M⟩:Mem)else none else none)=some r/\Rel Z s1 a.tmps w:=by
   cases ho:C.ownRes<;>rw[ho]at h
   ·exact Rn _ s a.tmps hR _ _ h
   ·exact⟨s,h,hR⟩
  obtain⟨s1,h1,a0⟩:=h1;obtain⟨s2,I,ρ,N⟩:=O0 a0 h1;split at I
  ·simp at I
  ·rename_i a1 T;obtain⟨xs,q1,q2,q3⟩:=Qvp N _ _ T;obtain⟨tm,aB,aC⟩:=s2;dsimp only at I;obtain⟨G,I⟩:=Q2h I;have O:C.keepIn=true->a.tmps.getD 0 undef=ρ.rv base:=λhk=>by
    rw[hk]at G;simp only[i9,Bool.false_or]at G;unfold ZI at G;split at G
    ·have e:=ac G;subst e;have:=N.tv 0 _ rfl;obtain⟨y,hy,S⟩:=this;simp only[fh,i6]at hy;subst hy;exact S.1
    ·simp at G
   simp only[A2]at I;have U:=Qoc L.resultTypes.toList _ _ q2 (P:=P);have V:=Qxy L.resultTypes.toList _ q3 (P:=P);generalize Gq P L.resultTypes.toList a1=J at I U V;generalize Jn aB 4 (AZ (cat (λp:Bool×List AC=>cat AC.keys p.2) J) D)=keys at I;generalize Lf aB (cat (λp:Bool×List AC=>p.2) J) keys=ids at I;obtain⟨S,I⟩:=BI I;simp only[al]at S;have X:(results L a.tmps).run P w= .ok (if h:xs.length=1 then xs[0]else .tuple xs.toArray) w:=by
    unfold results;rw[Array.mapM_eq_mapM_toList];simp only[Sem.run_bind,Sem.run_map];erw[q1]
    simp only[cd,Sem.run_pure];congr 1
   have a2:TV.inK keys ids (I2 J)=true:=Q4e S.1.1.1;have a3:TV.wf aB aC (I2 J):=Q38 V;refine⟨_,ρ,_,_,I,X,?_,O⟩;refine N.filter (by simp) (λi v hi=> ?_) (λv hv=> ?_) (by simp[Ai,a2]) S.1.1.2 (λk b hk=>As.1 S.2 k (Y k b hk))
   ·cases i with
    |zero=>simp at hi;subst hi;simpa using Zec U
    |succ i=>simp at hi
   ·simp at hv;subst hv;exact a3
theorem Qjd (G:Aj P C) (V:∀t∈C.eqOk,P.stoodInHeld t=false) (M:P.follows .mixedOrders=true) (hZ:InZ Z) {L:Nat} {f:FuncId} {args:List TV} {mem:Mem} {K:TV->Mem->Option R} {r:R}
  (N:∀c,G0 P f=some c->SubOK P C c 0) (h:F3 P C L f args mem K=some r) {ρ:Env} {xs:List Value} (D:RelE Z args mem.aB mem.aC ρ xs.toArray w):
  Calls P f xs.toArray w λe w'=>∃x O v m,e= .returned x/\K v m=some r/\RelE Z [v] m.aB m.aC O #[x] w':=by
 unfold F3 at h;split at h
 ·rename_i J S;split at h
  ·rename_i c hc;obtain⟨_,h⟩:=BI h;simp only[A2]at h;have T:P.funcs[f]? =some J:=by simpa using S
   have hs:=N c (by unfold G0;rw[S];exact hc);refine calls_of_wp T hc ?_;have hlen:xs.length=args.length:=by simpa using D.tl.symm
   have hR:Rel Z ⟨args++List.replicate (J.ntmps-args.length) TV.dead,mem.aB,mem.aC⟩ (xs.toArray++Array.replicate (J.ntmps-xs.toArray.size) undef) w:=by
    refine⟨ρ,D.slots (by simp[hlen]) (λi u U=> ?_) (λu I=> ?_)⟩
    ·rw[ft]at U;split at U
     ·rename_i a3;have X:i<xs.length:=by omega
      have e:(xs.toArray++Array.replicate (J.ntmps-xs.toArray.size) undef).getD i undef=xs.toArray.getD i undef:=by
       simp[Array.getD_eq_getD_getElem?,Array.getElem?_append,X]
      rw[e];exact D.tv i u U
     ·have:=bq U;rw[List.mem_replicate]at this;rw[this.2];trivial
    ·rw[co]at I;rcases I with I|I
     ·exact D.wt u I
     ·rw[List.mem_replicate]at I;rw[I.2];trivial
   refine wp_mono (FO G V M hZ c L 0 _ ⟨_,[]⟩ w _ hs hR rfl h) ?_;rintro e a' w' ⟨ae,s,rfl,Y,a0,hd⟩;have a1:∀k b,Z.K0 k=some b->k∈mem.aB.map (·.1):=by
    intro k b hk;obtain⟨_,bo,a2⟩:=D.k0 k b hk;exact JU.2 ⟨bo,a2⟩
   have E:O5 P C J (mem.aB.map (·.1)) s K=some r->a'.defers=[]/\∃x,(results J a'.tmps).run P w'= .ok x w'/\∃y O v m,Ending.returned x= .returned y/\K v m=some r/\RelE Z [v] m.aB m.aC O #[y] w':=by
    intro hf;obtain⟨x,O,v,m,h0,h1,h2,_⟩:=Zqs a0 a1 hf;exact⟨hd,x,h1,x,O,v,m,rfl,h0,h2⟩
   cases ae with
   |normal=>
    obtain⟨q1,x,q2,q3⟩:=E Y;exact⟨q1,x,q2,q3⟩
   |ret=>
    obtain⟨q1,x,q2,q3⟩:=E Y;exact⟨q1,x,q2,q3⟩
   |exit id=>simp at Y
  ·simp at h
 ·simp at h
theorem Zlf {L:Nat} {f:FuncId} {args:List TV} {mem:Mem} {K:TV->Mem->Option R} {r:R} (h:F3 P C L f args mem K=some r):Ai (λp:Nat×Box=>CR p.1) mem.aB=true:=by
 unfold F3 at h;split at h
 ·split at h
  ·exact(BI h).1
  ·simp at h
 ·simp at h
theorem Qg {F:Nat->Prop} {ρ:Env} {aB:List (Nat×Box)} {G:Gt F w} (h:Ai (λp:Nat×Box=>CR p.1) aB=true):InZ (DG F w ρ aB G):=by
 intro k b E;simp only[DG,bg]at E;obtain⟨bo,D,_⟩:=E;exact As.1 h (k,bo) (LT D)
theorem Zrm (D:Aj P C) (I:∀t∈C.eqOk,P.stoodInHeld t=false) (E:P.follows .mixedOrders=true) {L:Nat} {f:FuncId} {args:List TV} {mem:Mem} {v:TV} {mem':Mem}
  (G:∀c,G0 P f=some c->SubOK P C c 0) (h:F3 P C L f args mem (λv m=>some (v,m))=some (v,mem')):PCallM P f args mem v mem':=by
 intro F w S ρ xs J;refine(Qjd D I E (Qg (Zlf h)) G h J).mono ?_;rintro e w' ⟨x,N,T,U,he,M,O⟩;simp only[ap,bt]at M;obtain⟨rfl,rfl⟩:=M;exact⟨x,N,he,O⟩
theorem Qc3 {sig D:Sk} {m:List AC->Option (List AC)} (R:Type) (args:List TV) (mem:Mem) (K:TV->Mem->Option R):Ad sig D m R args mem K=(Ad sig D m (TV×Mem) args mem λv m=>some (v,m)).bind λp=>K p.1 p.2:=by
  obtain⟨aB,aC⟩:=mem;simp only[Ad];cases Ai (λp:Nat×Box=>CR p.1) aB
  ·rfl
  ·simp only[ai];cases Fl sig ⟨args,aB,aC⟩with
   |none=>rfl
   |some vars=>
    dsimp only;cases m vars with
    |none=>rfl
    |some o=>
     simp only[ak];generalize Ce D o=s;obtain⟨tm,b,r⟩:=s;dsimp only;split<;>rfl
theorem Qun (G:Aj P C) (U:∀t∈C.eqOk,P.stoodInHeld t=false) (M:P.follows .mixedOrders=true) {L:Nat} {f:FuncId} {sig D:Sk} {m:List AC->Option (List AC)} (h1:sig.okB=true) (h2:D.okB=true)
  (N:∀c,G0 P f=some c->SubOK P C c 0) (hm:∀vars o,m vars=some o->Al P C L f sig D vars=some o) {args:List TV} {mem:Mem} {v:TV} {mem':Mem} (h:(Ad sig D m (TV×Mem) args mem λv m=>some (v,m))=some (v,mem')):PCallM P f args mem v mem':=by
  obtain⟨aB,aC⟩:=mem;simp only[Ad]at h;obtain⟨V,h⟩:=BI h;split at h
  ·rename_i vars hv;simp only[cr]at h;obtain⟨o,ho,h⟩:=h;have E:=hm vars o ho;intro F w hG ρ xs X;have Y:InZ (DG F w ρ aB hG):=Qg V;have I:=X.rebuild Y h1 hv;unfold Al at E;generalize hs:Ce sig vars=s1 at E I;obtain⟨a0,T,a1⟩:=s1;dsimp only at E I;refine(Qjd G U M Y N E I).mono ?_;rintro e w' ⟨x,ρ',v',m',he,O,S⟩;obtain⟨b',r'⟩:=m';dsimp only at O S;have J:=S.rebuild Y h2 O;generalize a2:Ce D o=s2 at h J;obtain⟨tm,b2,r2⟩:=s2;dsimp only at h J;split at h
   ·simp only[ap,bt]at h;obtain⟨rfl,rfl⟩:=h;exact⟨x,ρ',he,J⟩
   ·simp at h
  ·simp at h
theorem Ze3 (E:Aj P C) (J:∀t∈C.eqOk,P.stoodInHeld t=false) (G:P.follows .mixedOrders=true) {L:Nat} {f:FuncId} (M:Ob P f) {sig D:Sk} {m:List AC->Option (List AC)} (N:sig.okB=true) (O:D.okB=true)
  (I:∀c,G0 P f=some c->SubOK P C c 0) (S:∀vars o,m vars=some o->Al P C L f sig D vars=some o):SpecRight P f (Ad sig D m):=
 ⟨Qc3,λ_ _ _ _ h=>PCallM.x (Qun E J G N O I S h) M⟩
end
open Go.RowKit Go.WideShapes Go.ChangeShapes
def OI (P:Program) (g:TypeId->Option (List Kd)):List Field->Nat->Option (List Kd)
 |[],_=>some []
 |f::fs,o=>match g f.type with
  |some ks=>bif Nat.beq f.offset o&&Nat.beq (P.cellsOf f.type) ks.length then(OI P g fs (o+ks.length)).map (ks++ ·)else none
  |none=>none
def G1 (P:Program):Nat->TypeId->Option (List Kd)
 |0,_=>none
 |n+1,t=>match P.underlying t with
  |some .bool=>some [.bool]
  |some (.int k)=>some [.int k]
  |some (.slice e)=>(G1 P n e).bind λks=>bif Nat.beq (P.cellsOf e) ks.length&&Nat.blt 0 ks.length then some [.sl ks]else none
  |some (.struct fs)=>(OI P (G1 P n) fs.toList 0).bind λks=>bif Nat.beq (P.cellsOf t) ks.length then some ks else none
  |some (.array m e)=>(G1 P n e).bind λks=>bif Nat.beq (P.cellsOf e) ks.length&&Nat.beq (P.cellsOf t) (m*ks.length)then some (OC ks m)else none
  |_=>none
mutual
def okC:Kd->AC->Prop
 | .int k,a=>k.min<=Ah a/\Ah a<=k.max
 | .bool,_=>True
 | .sl ks,a=>(Bb a).length<=maxLen/\∀c∈Bb a,okR ks c/\AF ks c=c
 | .raw,_=>True
def okR:List Kd->List AC->Prop
 |[],_=>True
 |_::_,[]=>False
 |k::ks,a::cs=>okC k a/\okR ks cs
end
def Op (w:World) (ks:List Kd) (cs:List Value):Prop:=∃raw,AF ks raw=raw/\CL (CP (λb=>b<w.heap.size) w) raw cs/\okR ks raw
theorem Op.length {w:World} {ks:List Kd} {cs:List Value} (h:Op w ks cs):cs.length=ks.length:=by
 obtain⟨raw,D,E,_⟩:=h;rw[<-E.length,<-D,Ou]
theorem Qvr:∀(D E:List Kd) (G I:List AC),G.length=D.length->AF (D++E) (G++I)=AF D G++AF E I
 |[],E,[],I,_=>rfl
 |k::D,E,a::G,I,h=>by
  simp only[aq];rw[Qj1,Qj1,Qvr D E G I (by simpa using h)];rfl
 |[],_,_::_,_,h=>by simp at h
 |_::_,_,[],_,h=>by simp at h
theorem Qq5:∀{D G:List Kd} {E I:List AC},E.length=D.length->okR D E->okR G I->okR (D++G) (E++I)
 |[],_,[],_,_,_,h=>h
 |k::D,G,a::E,I,J,h,h'=>by
  simp only[aq,okR]at h⊢;exact⟨h.1,Qq5 (by simpa using J) h.2 h'⟩
 |[],_,_::_,_,h,_,_=>by simp at h
 |_::_,_,[],_,h,_,_=>by simp at h
theorem Op.append {w:World} {D E:List Kd} {G I:List Value} (h:Op w D G) (h':Op w E I):Op w (D++E) (G++I):=by
 obtain⟨J,a1,a2,a3⟩:=h;obtain⟨M,b1,b2,b3⟩:=h';have L:J.length=D.length:=by rw[<-a1,Ou]
 exact⟨J++M,by rw[Qvr _ _ _ _ L,a1,b1],a2.append b2,Qq5 L a3 b3⟩
theorem Op.nil {w:World}:Op w [] []:=⟨[],rfl,trivial,by simp[okR]⟩
section
variable {H:Type} {enc:TypeId×Value->H} {P:Program} {w:World}
theorem Quj {g:TypeId->Option (List Kd)} {m:Nat} (M:∀(t:TypeId) (ks:List Kd) (cs:List Value) (x:DataW H×List MemPlace),g t=some ks->DataW.trod enc P w 0 (λ_=>true) true m t cs=some x->Op w ks cs):
  ∀(fs:List Field) (o:Nat) (ks:List Kd) (cs:List Value),OI P g fs o=some ks->cs.length=o+ks.length->
   (∀f∈fs,∃x,DataW.trod enc P w 0 (λ_=>true) true m f.type ((cs.drop f.offset).take (P.cellsOf f.type))=some x)->Op w ks (cs.drop o)
 |[],o,ks,cs,h,G,_=>by
  simp[OI]at h;subst h;have:cs.drop o=[]:=by apply jb;simp at G;omega
  rw[this];exact Op.nil
 |f::fs,o,ks,cs,h,G,N=>by
  simp only[OI]at h;split at h
  ·rename_i D I;cases E:(Nat.beq f.offset o&&Nat.beq (P.cellsOf f.type) D.length)<;>rw[E]at h
   ·simp at h
   ·simp only[ai,bg]at h;obtain⟨S,T,rfl⟩:=h;simp only[al]at E;have e1:f.offset=o:=ac E.1;have e2:P.cellsOf f.type=D.length:=ac E.2;obtain⟨x,J⟩:=N f (by simp);have O:=M _ _ _ _ I J;rw[e1,e2]at O;have U:=Quj M fs (o+D.length) S cs T (by simp at G;omega) (λV L=>N V (by simp[L]));have:cs.drop o=(cs.drop o).take D.length++cs.drop (o+D.length):=by
     rw[<-gy,List.take_append_drop]
    rw[this];exact O.append U
  ·cases h
theorem Qoi {ks:List Kd}:∀(m:Nat) (cs:List Value),cs.length=m*ks.length->(∀i,i<m->Op w ks ((cs.drop (i*ks.length)).take ks.length))->Op w (OC ks m) cs
 |0,cs,D,_=>by
  have:cs=[]:=by simpa using D
  subst this;exact Op.nil
 |m+1,cs,D,h=>by
  have E:=h 0 (by omega);simp at E;have:cs=cs.take ks.length++cs.drop ks.length:=(List.take_append_drop _ _).symm;rw[this,OC];refine E.append (Qoi m _ ?_ λi G=> ?_)
  ·simp[D,fu]
  ·have:=h (i+1) (by omega);rw[gy];rw[fu,iu]at this;exact this
theorem Zjd {ks:List Kd} {cs:List Value} {e t:TypeId} {fuel:Nat} {x:DataW H×List MemPlace} (hu:P.underlying t=some (.slice e)) (e1:P.cellsOf e=ks.length) (e2:0<ks.length)
  (hx:DataW.trod enc P w 0 (λ_=>true) true fuel t cs=some x) (ih:∀(m:Nat) (cs:List Value) (x:DataW H×List MemPlace),DataW.trod enc P w 0 (λ_=>true) true m e cs=some x->Op w ks cs):Op w [.sl ks] cs:=by
 rcases Go.Deep.open_slice hu hx with⟨rfl,_⟩|⟨a,len,cap,m,n,D,Pl,rfl,_,hl,a8,hm,_,Y⟩
 ·refine⟨[.vC ks []],rfl,⟨Q6 ks,trivial⟩,?_⟩;simp[okR,okC,Bb]
 ·have a0:m=cap:=by simpa using hm
  subst a0
  have hex:∀i,∃(N:List Value) (raw:List AC),i<len->(w.cells? 0 (a.add (i*P.cellsOf e)) (P.cellsOf e)=some N/\AF ks raw=raw/\CL (CP (λb=>b<w.heap.size) w) raw N/\okR ks raw):=λi=>by
   by_cases I:i<len
   ·obtain⟨T,L,U⟩:=Y i (by omega);obtain⟨raw,r1,r2,r3⟩:=ih n T _ U;exact⟨T,raw,λ_=>⟨L,r1,r2,r3⟩⟩
   ·exact⟨[],[],λh=>(I h).elim⟩
  let N:Nat->List Value:=λi=>Classical.choose (hex i)
  let E:Nat->List AC:=λi=>Classical.choose (dz (hex i))
  have J:∀i,i<len->(w.cells? 0 (a.add (i*P.cellsOf e)) (P.cellsOf e)=some (N i)/\AF ks (E i)=E i/\CL (CP (λb=>b<w.heap.size) w) (E i) (N i)/\okR ks (E i)):=λi=>dz (dz (hex i));have hlen:((List.range len).map E).length=len:=by simp
  have V:∀i (Y:i<((List.range len).map E).length),((List.range len).map E)[i]=E i:=λi Y=>by simp
  have M:∀c∈(List.range len).map E,∃i,i<len/\c=E i:=λc S=>by
   simp only[av,List.mem_range]at S;obtain⟨i,L,U⟩:=S;exact⟨i,L,U.symm⟩
  refine⟨[.vC ks ((List.range len).map E)],rfl,⟨?_,trivial⟩,?_⟩
  ·rw[CP];refine⟨some a,m,by rw[hlen],by rw[hlen];exact hl,λc S=> ?_,?_⟩
   ·obtain⟨i,L,rfl⟩:=M c S;exact(J i L).2.1
   ·by_cases h0:len=0
    ·subst h0;exact .inl rfl
    ·right;have h0:0<len:=by omega
     obtain⟨a1,r1,r2,_⟩:=J 0 h0;obtain⟨_,a2,X⟩:=World.cells?_some a1;have G:=X 0 (by omega);simp only[gc]at G;have ea:(a.add 0).add 0=a:=by simp[Addr.add]
     rw[ea,an (by omega)]at G;have O:a.spot=none/\a.block<w.heap.size:=by
      unfold World.cell? at G;split at G
      ·rename_i hb;split at G
       ·cases G
       ·rename_i a3;refine⟨by simpa using a3,(da.1 hb).1⟩
      ·cases G
     obtain⟨b,o,sp⟩:=a;obtain⟨rfl,hb⟩:=O;refine⟨b,o,rfl,hb,Qn λi I=> ?_⟩;rw[V i I];rw[hlen]at I;obtain⟨a4,a5,a6,_⟩:=J i I;obtain⟨_,hle,a7⟩:=World.cells?_some a4;refine⟨by rw[<-a5];exact Ou _ _,SC _ (N i) b _ a6 λj y hj=> ?_⟩;have a9:j<(N i).length:=(d9.1 hj).1;have:=a7 j (by omega);rw[<-hj,<-this,e1];congr 1;unfold Addr.add;by_cases L:i*ks.length=0<;>by_cases U:j=0<;>simp[L,U,de]
  ·simp only[okR,okC,Bb,i6];refine⟨by rw[hlen];omega,λc S=> ?_⟩;obtain⟨i,L,rfl⟩:=M c S;exact⟨(J i L).2.2.2,(J i L).2.1⟩
theorem OD:∀(n:Nat) (m:Nat) (t:TypeId) (ks:List Kd) (cs:List Value) (x:DataW H×List MemPlace),G1 P n t=some ks->DataW.trod enc P w 0 (λ_=>true) true m t cs=some x->Op w ks cs
 |0,_,_,_,_,_,h,_=>by simp[G1]at h
 |n+1,m,t,ks,cs,x,h,J=>by
  unfold G1 at h;split at h
  ·rename_i I;simp at h;subst h;obtain⟨b,rfl,_⟩:=DataW.trod_bool I J;exact⟨[.bool b],rfl,⟨Qlq _,trivial⟩,by simp[okR,okC]⟩
  ·rename_i k I;simp at h;subst h;obtain⟨i,rfl,_,U⟩:=DataW.trod_int I J;exact⟨[.int k i],rfl,⟨FD _ _,trivial⟩,by simpa [okR,okC,Ah,Lit.wf]using U⟩
  ·rename_i e I;simp only[cr]at h;obtain⟨G,L,D⟩:=h;cases E:(Nat.beq (P.cellsOf e) G.length&&Nat.blt 0 G.length)<;>rw[E]at D
   ·simp at D
   ·simp at D;subst D;simp only[al]at E;have e1:=ac E.1;have e2:0<G.length:=by have:=E.2;simp[Nat.blt]at this;omega
    exact Zjd I e1 e2 J λm cs x=>OD n m e G cs x L
  ·rename_i fs I;obtain⟨xs,N,rfl,_,hlen,O,hf⟩:=DataW.trod_struct I J;simp only[cr]at h;obtain⟨G,L,D⟩:=h;cases E:Nat.beq (P.cellsOf t) G.length<;>rw[E]at D
   ·simp at D
   ·simp at D;subst D;have e:=ac E;have := Quj (λt ks cs x => OD n N t ks cs x) fs.toList 0 G cs L (by omega) (λf S => by
     obtain⟨i,T⟩:=List.mem_iff_getElem?.1 S;have M:fs[i]? =some f:=by simpa using T
     have:=hf i f M;have V:i<fs.size:=by
      have:=(da.1 M).1;exact this
     rw[this,an (by omega)];exact⟨_,rfl⟩)
    simpa using this
  ·rename_i k e I;obtain⟨xs,N,rfl,_,hlen,O,hf⟩:=DataW.trod_array I J;simp only[cr]at h;obtain⟨G,L,D⟩:=h;cases E:(Nat.beq (P.cellsOf e) G.length&&Nat.beq (P.cellsOf t) (k*G.length))<;>rw[E]at D
   ·simp at D
   ·simp at D;subst D;simp only[al]at E;have e1:=ac E.1;have e2:=ac E.2;refine Qoi k cs (by omega) λi T=> ?_;have:=hf i T;rw[e1]at this;refine OD n N e G _ (xs[i]'(by omega)) L ?_;rw[this,an]
  ·cases h
end
structure Ar where
 agg:Bool
 ks:List Kd
 raw:List AC
def Ar.sh (a:Ar):Bool×List Kd:=(a.agg,a.ks)
def Ar.ok (a:Ar):Prop:=okR a.ks a.raw/\AF a.ks a.raw=a.raw
def Ar.tv (a:Ar):TV:= .v a.agg (AF a.ks a.raw)
def shK (P:Program) (t:TypeId):Option (Bool×List Kd):=match P.underlying t with
 |some (.struct _)=>(G1 P 8 t).map λks=>(true,ks)
 |some (.array _ _)=>(G1 P 8 t).map λks=>(true,ks)
 |some .bool=>some (false,[.bool])
 |some (.int k)=>some (false,[.int k])
 |some (.slice _)=>(G1 P 8 t).map λks=>(false,ks)
 |_=>none
section
variable {H:Type} {enc:TypeId×Value->H} {P:Program} {W:World}
theorem Zh8 {t:TypeId} {v:Value} {d:DataW H} {p:List MemPlace} {r:Reach} {O:Nat} {sh:Bool×List Kd} (D:shK P t=some sh) (I:Value.okWide P W r O t v)
  (h:DataW.Trod enc P W 0 (λ_=>true) true t v d p):∃a:Ar,a.sh=sh/\a.ok/\∀(ρ:Env),ρ.im=(λb=>b<W.heap.size)->TVR ρ W a.tv v:=by
 have agg:∀(ks:List Kd) (cs:Array Value),G1 P 8 t=some ks->v= .agg cs->∃a:Ar,a.sh=(true,ks)/\a.ok/\∀(ρ:Env),ρ.im=(λb=>b<W.heap.size)->TVR ρ W a.tv v:=by
  rintro ks cs G rfl;obtain⟨fuel,hf⟩:=h;obtain⟨raw,J,L,M⟩:=OD 8 fuel t ks _ _ G hf;refine⟨⟨true,ks,raw⟩,rfl,⟨M,J⟩,λρ N=>⟨cs,rfl,?_⟩⟩;rw[J];exact L.mono λa _ x S=>Ho (by rw[N];exact S)
 unfold shK at D;split at D
 ·rename_i fs E;simp only[bg]at D;obtain⟨ks,G,rfl⟩:=D;obtain⟨cs,rfl,_⟩:=okWide_struct E I;exact agg ks cs G rfl
 ·rename_i k e E;simp only[bg]at D;obtain⟨ks,G,rfl⟩:=D;obtain⟨cs,rfl,_⟩:∃cs,v= .agg cs/\cs.size=P.cellsOf t:=by
   simp only[Value.okWide,E]at I;obtain⟨cs,T,U,_⟩:=I;exact⟨cs,T,U⟩
  exact agg ks cs G rfl
 ·rename_i E;simp at D;subst D;obtain⟨n,rfl,_,_⟩:=open_bool E I h;exact⟨⟨false,[.bool],[.bool n]⟩,rfl,⟨by simp[okR,okC],rfl⟩,λρ _=>TVR.mkBool n⟩
 ·rename_i k E;simp at D;subst D;obtain⟨n,rfl,_,_,V⟩:=open_int E I h;exact⟨⟨false,[.int k],[.int k n]⟩,rfl,⟨by simpa [okR,okC,Ah,Lit.wf]using V,rfl⟩,λρ _=>TVR.mkInt k n⟩
 ·rename_i e E;simp only[bg]at D;obtain⟨ks,G,rfl⟩:=D;obtain⟨Y,len,cap,rfl⟩:=okWide_slice E I;obtain⟨fuel,hf⟩:=h;obtain⟨raw,J,L,M⟩:=OD 8 fuel t ks _ _ G hf;have X:raw.length=1:=by rw[L.length];simp[Value.cells]
  match raw,X with
  |[a],_=>
   refine⟨⟨false,ks,[a]⟩,rfl,⟨M,J⟩,λρ N=>⟨a,J,?_⟩⟩;have:=L.1;exact Ho (by rw[N];simpa [Value.cells]using this)
 ·cases D
theorem Qrr {r:Reach} {b0:Nat}:∀(I:List TypeId) (E:List Value) (M:List (DataW H)) (p:List MemPlace) (D:List (Bool×List Kd)),I.map (shK P)=D.map some->
  (∀(j:Nat) (t:TypeId) (v:Value),I[j]? =some t->E[j]? =some v->Value.okWide P W r b0 t v)->DataW.TrodAll enc P W 0 (λ_=>true) true I E M p->
  ∃as:List Ar,as.map Ar.sh=D/\(∀a∈as,a.ok)/\E.length=as.length/\∀(i:Nat) (a:Ar) (x:Value),as[i]? =some a->E[i]? =some x->∀(ρ:Env),ρ.im=(λb=>b<W.heap.size)->TVR ρ W a.tv x
 |[],E,M,p,D,G,_,h=>by
  obtain⟨rfl,rfl,rfl⟩:=trodAll_nil h;cases D with
  |nil=>exact⟨[],rfl,by simp,rfl,by simp⟩
  |cons=>simp at G
 |t::I,E,M,p,D,G,V,h=>by
  obtain⟨v,N,d,O,a,b,rfl,rfl,rfl,J,L⟩:=trodAll_cons h;cases D with
  |nil=>simp at G
  |cons sh D=>
   simp only[ba,fh]at G;obtain⟨as,e1,e2,e3,X⟩:=Qrr I N O b D G.2 (λj t v Y S=>V (j+1) t v (by simpa using Y) (by simpa using S)) L;obtain⟨a,ha,T,hp⟩:=Zh8 G.1 (V 0 t v rfl rfl) J;refine⟨a::as,by simp[ha,e1],?_,by simp[e3],?_⟩
   ·intro x U;rcases az.1 U with rfl|U
    ·exact T
    ·exact e2 x U
   ·intro i a' x J L;cases i with
    |zero=>simp at J L;subst J;subst L;exact hp
    |succ i=>exact X i a' x (by simpa using J) (by simpa using L)
theorem Qs7 (O:laidOutB P=true) {S:World} (hb:Below W.heap.size W S) {T:Nat->Bool}:∀(E:List TypeId) (I:List Value) (J:List (DataW H)) (p:List MemPlace),
  E.all (λt=>P.readableRec t&&decide (t<P.types.size))=true->(∀x∈p,x.block<W.heap.size/\T x.block=true)->DataW.TrodAll enc P W 0 (λ_=>true) true E I J p->
  DataW.TrodAll enc P S 0 T true E I J p
 |[],I,J,p,_,_,h=>by
  obtain⟨rfl,rfl,rfl⟩:=trodAll_nil h;exact rfl
 |t::E,I,J,p,L,D,h=>by
  obtain⟨v,M,d,N,a,b,rfl,rfl,rfl,U,V⟩:=trodAll_cons h;simp only[List.all_cons,al,bp]at L;refine⟨a,b,WideElems.Trod_stays O L.1.1 L.1.2 U (λx G=>hb.same (D x (by simp[G])).1) (λx G=>(D x (by simp[G])).2),?_,rfl⟩;exact Qs7 O hb E M N b L.2 (λx G=>D x (by simp[G])) V
theorem Zb7 {f:Func} {s:ChangeSpec} {apart fresh handsOn again:Bool} {W M:World} {args:Array Value} {v:Value} {N O:List (DataW H)} {before pa pv:List MemPlace}
  (U:DataW.Whole enc P f.params.toList s.vars apart W args.toList N O before)
  (J:∀(b:Nat) (L:Nat->Bool) (X:Bool),DataW.TrodAll enc P M b L X f.resultTypes.toList (v.resultList f.resultTypes.size) (s.fn H (N++O)).results [])
  (D:∀L:Nat->Bool,(∀p∈before,L p.block=true)->DataW.TrodAll enc P M 0 L true f.params.toList args.toList (s.fn H (N++O)).args pa)
  (E:∀L:Nat->Bool,(∀p∈before,L p.block=true)->DataW.TrodVars enc P M L s.vars (s.fn H (N++O)).vars pv)
  (I:before=pa++pv) (hb:Below W.heap.size W M)
  (V:∀(j:Nat) (t:TypeId) (r:Value),f.resultTypes[j]? =some t->(v.resultList f.resultTypes.size)[j]? =some r->Value.okWide P M .any 0 t r):
  s.post enc P f apart fresh handsOn again W args v M:=by
 have S:∀p∈before,p.block<W.heap.size:=λp G=>U.lt p G;have hold:∀p∈before,(λb=>decide (b<W.heap.size)) p.block=true:=λp G=>by simpa using S p G
 refine⟨N,O,before,[],pa,pv,U,J _ _ _,D _ hold,E _ hold,World.keptBut_mono (λp G=>⟨G,?_⟩) (hb.frame (· ∈before)),λ_=> ?_⟩
 ·rw[I,co]at G;exact Or.inr G
 ·obtain⟨_,_,_,_,_,Y,hn⟩:=U;refine⟨V,_,_,([]++pa)++pv,⟨[]++pa,pv,trodAll_append (D _ (λ_ _=>rfl)) (J _ _ _),E _ (λ_ _=>rfl),rfl,?_,?_⟩,?_⟩
  ·intro b off G;have T:MemPlace.cell b off∈before:=by rw[I];simpa using G
   rw[hb.frozen (S _ T)];exact Y b off T
  ·intro ha;have:=hn ha;rw[I]at this;simpa using this
  ·intro p G _;rw[I];simpa using G
theorem Zp2 {f:FuncId} {M:Func} {s:ChangeSpec} {apart fresh handsOn again:Bool} {tb:TypeId} {shs:List (Bool×List Kd)} {args:Array Value} {J gs:List (DataW H)} {before:List MemPlace} {base:Nat}
  (E:s.vars=[]) (hl:laidOutB P=true) (a0:M.resultTypes= #[tb]) (a1:P.underlying tb=some .bool)
  (N:M.params.toList.all (λt=>P.readableRec t&&decide (t<P.types.size))=true) (a8:M.params.toList.map (shK P)=shs.map some)
  (O:∀l:List (DataW H),l.length=shs.length->s.fn H l={results:=[.lit (.bool true)],args:=l})
  (a2:∀as:List Ar,as.map Ar.sh=shs->(∀a∈as,a.ok)->PCallM P f (as.map Ar.tv) ⟨[],[]⟩ (.v false [.bool true]) ⟨[],[]⟩)
  (a3:∀(j:Nat) (t:TypeId) (v:Value),M.params[j]? =some t->args[j]? =some v->Value.okWide P W .any base t v)
  (hW:DataW.Whole enc P M.params.toList s.vars apart W args.toList J gs before) (hG:Gt (λb=>b<W.heap.size) W):
  Calls P f args W λe W'=>∃v,e= .returned v/\s.post enc P M apart fresh handsOn again W args v W':=by
 have a4:=hW;obtain⟨p,q,hA,hV,rfl,b2,b3⟩:=hW;rw[E]at hV;obtain⟨rfl,rfl⟩:=trodVars_none hV;have a9:∀x∈p++[],x.block<W.heap.size:=λx X=>a4.lt x X;obtain⟨as,e1,e2,e3,e4⟩:=Qrr (r:= .any) (b0:=base) M.params.toList args.toList J p shs a8 (λj t v ht hv=>a3 j t v (by simpa using ht) (by simpa using hv)) hA;have b1:J.length=shs.length:=by
  have:∀(ts:List TypeId) (vs:List Value) (J:List (DataW H)) (p:List MemPlace),DataW.TrodAll enc P W 0 (λ_=>true) true ts vs J p->J.length=vs.length:=by
   intro ts;induction ts with
   |nil=>intro vs J p h;obtain⟨rfl,rfl,rfl⟩:=trodAll_nil h;rfl
   |cons t ts ih=>
    intro vs J p h;obtain⟨v,b4,d,b5,a,b,rfl,rfl,rfl,h1,h2⟩:=trodAll_cons h;simp[ih _ _ _ h2]
  rw[this _ _ _ _ hA,e3,<-e1,af]
 have S:=O (J++[]) (by simpa using b1);have a5:RelE (DG (λb=>b<W.heap.size) W ⟨λ_=>0,λ_=> .slice none 0 0,λ_=>0,λb=>b<W.heap.size⟩ [] hG) (as.map Ar.tv) [] [] ⟨λ_=>0,λ_=> .slice none 0 0,λ_=>0,λb=>b<W.heap.size⟩ args.toList.toArray W:=by
  refine⟨by simpa using e3.symm,λi v hi=> ?_,λv hv=> ?_,λk b D=>by simp[Ab]at D,λk b D=>by simp[Ab]at D,λk k' b b' D=>by simp[Ab]at D,λid r N=>by simp[Ab]at N,
   λid id' r r' g N=>by simp[Ab]at N,λk b id r D=>by simp[Ab]at D,λb hb=>⟨hb,λk bo D=>by simp[Ab]at D,λid r N=>by simp[Ab]at N⟩,Fr.refl _ _,λ_ h=>h,λ_ h=>h,λb h=> .inl h,λk b D=>by simp[DG,Ab]at D⟩
  ·simp only[eg,bg]at hi;obtain⟨a,T,rfl⟩:=hi;have L:i<args.toList.length:=by rw[e3];exact(d9.1 T).1
   have a6:i<args.size:=by simpa using L
   have e:args.toList.toArray.getD i undef=args.toList[i]:=by simp[Array.getD,a6]
   rw[e];exact e4 i a _ T (an L) _ rfl
  ·simp only[av]at hv;obtain⟨a,T,rfl⟩:=hv;intro c I;obtain⟨i,hi⟩:=List.getElem?_of_mem T;have L:i<args.toList.length:=by rw[e3];exact(d9.1 hi).1
   have b6:=e4 i a _ hi (an L) ⟨λ_=>0,λ_=> .slice none 0 0,λ_=>0,λb=>b<W.heap.size⟩ rfl;have U:∀(ks:List Kd) (cs:List AC) (j:Nat),∀c∈DQ ks cs j,AC.calm c=true:=by
    intro ks;induction ks with
    |nil=>intro cs j c I;simp[DQ]at I
    |cons k ks ih=>
     intro cs j c I;simp only[DQ,az]at I;rcases I with rfl|I
     ·cases k<;>try rfl
      generalize nth AC.dead cs j=b;cases b<;>rfl
     ·exact ih cs _ c I
   have:=U a.ks a.raw 0 c I;cases c<;>first|trivial|(simp[AC.calm]at this)
 have G:=a2 as e1 e2 _ args.toList a5;have V:args.toList.toArray=args:=by simp
 rw[V]at G;refine G.mono ?_;rintro e W' ⟨x,ρ',rfl,Y⟩;have hb:Below W.heap.size W W':=⟨Y.fr.os,Y.fr.tape,Y.fr.output,Y.fr.size,λk D=>Y.fr.block k D⟩;have X:x= .bool true:=by
  have:TVR ρ' W' (.c (.bool true)) x:=by simpa using Y.tv 0 _ rfl
  obtain⟨a,T,I⟩:=this;simp at T;subst T;simpa [CC,CP]using I
 subst X;refine⟨_,rfl,Zb7 (pa:=p) (pv:=[]) a4 ?_ ?_ ?_ rfl hb (ok_one a0 rfl (okWide_bool_mk a1 true))⟩
 ·intro b sp hd;rw[S,a0];exact trodAll_mk1 (shut_bool a1 true)
 ·intro sp a7;rw[S];simp only[List.append_nil];exact Qs7 hl hb _ _ _ _ N (λx X=>⟨a9 x (by simp[X]),a7 x (by simp[X])⟩) hA
 ·intro sp a7;rw[S,E];exact rfl
end
theorem Zo5 {α:Type 1} {c:Bool} {p:Option α} {q:α} (h:cond c p none=some q):c=true/\p=some q:=by cases c<;>simp at h;exact⟨rfl,h⟩
theorem PS:∀{l:List (Nat×Spec)} {k:Nat} {b:Spec},GE l k=some b->(k,b)∈l
 |[],_,_,h=>by simp[GE]at h
 |(j,c)::l,k,b,h=>by
  simp only[GE]at h;cases hb:Nat.beq j k<;>rw[hb]at h
  ·simp only[ao]at h;exact ic _ (PS h)
  ·simp at h;subst h;rw[ac hb];simp
def HJ (P:Program) (f:FuncId):Bool:=match P.funcs[f]? with
 |some fn=> !(fn.name== "runtime.NumGoroutine")&&fn.body.isSome
 |none=>false
theorem Oq {P:Program} {f:FuncId} (h:HJ P f=true):Ob P f:=by
 unfold HJ at h;split at h
 ·rename_i D hf;simp only[al,gx]at h;exact⟨D,hf,h.1,by cases hb:D.body<;>simp_all⟩
 ·cases h
def Ak (P:Program) (p:Nat×Spec):Prop:=SpecRight P p.1 p.2
def AllOK (P:Program):List (Nat×Spec)->Prop
 |[]=>True
 |p::l=>Ak P p/\AllOK P l
theorem AllOK.mem {P:Program}:∀{l:List (Nat×Spec)},AllOK P l->∀p∈l,Ak P p
 |_::l,h,p,D=>by
  rcases az.1 D with rfl|D
  ·exact h.1
  ·exact AllOK.mem h.2 p D
theorem Am {P:Program} {C:Cfg} {l:List (Nat×Spec)} (I:C.spec=GE l) (h:AllOK P l) (D:C.ro=λ_=>false:=by rfl) (E:C.keepR=λ_=>false:=by rfl):Aj P C:=by
 refine⟨λf g G=> ?_,λf g _ h=> ?_,λf g _ h=>(by rw[E]at h;cases h)⟩
 ·rw[I]at G;exact h.mem _ (PS G)
 ·rw[D]at h;cases h
def AllRo (rs:List Nat):List (Nat×Spec)->Prop
 |[]=>True
 |p::l=>(AI rs p.1=false\/Qcz p.2)/\AllRo rs l
theorem AllRo.mem {rs:List Nat}:∀{l:List (Nat×Spec)},AllRo rs l->∀p∈l,AI rs p.1=false\/Qcz p.2
 |_::l,h,p,D=>by
  rcases az.1 D with rfl|D
  ·exact h.1
  ·exact AllRo.mem h.2 p D
abbrev O:=IntKind.wrap .i64
theorem Zc3 {P:Program} {C:Cfg} {l:List (Nat×Spec)} {rs:List Nat} (J:C.spec=GE l) (h:AllOK P l) (E:C.ro=λf=>AI rs f) (L:AllRo rs l) (G:C.keepR=λ_=>false:=by rfl):Aj P C:=by
 refine⟨λf g D=> ?_,λf g D I=> ?_,λf g _ h=>(by rw[G]at h;cases h)⟩
 ·rw[J]at D;exact h.mem _ (PS D)
 ·rw[J]at D;rw[E]at I;rcases L.mem _ (PS D)with h|h
  ·dsimp only at h I;rw[I]at h;cases h
  ·exact h
theorem Ae {x:Int} (h: -9223372036854775808<=x/\x<=9223372036854775807:=by omega):O x=x:=by
 simp[O,IntKind.wrap,IntKind.signed,IntKind.bits];omega
section loops
variable {step:List AC->Option (Nat×List AC)}
theorem Qkm:∀{n:Nat} {vars:List AC} {o:Nat×List AC},CI step n vars=some o->CI step (n+1) vars=some o
 |0,_,_,h=>by simp[CI]at h
 |n+1,vars,o,h=>by
  rw[CI]at h⊢;simp only[cr]at h⊢;obtain⟨q,G,D⟩:=h;refine⟨q,G,?_⟩;split at D
  ·rename_i E;rw[aa E];exact Qkm D
  ·rename_i E;rw[ab E];exact D
theorem Qvh {n m:Nat} {vars:List AC} {o:Nat×List AC} (D:n<=m) (h:CI step n vars=some o):CI step m vars=some o:=by
 induction D with
 |refl=>exact h
 |step _ E=>exact Qkm E
theorem Zh0 {n m:Nat} {vars:List AC} {o D:Nat×List AC} (h:CI step n vars=some o) (h':CI step m vars=some D):o=D:=by
 have G:=Qvh (Nat.le_max_left n m) h;have E:=Qvh (Nat.le_max_right n m) h';rw[G]at E;simpa using E
open Classical in
noncomputable def An (step:List AC->Option (Nat×List AC)) (vars:List AC):Option (Nat×List AC):=
 if h:∃n o,CI step n vars=some o then CI step (Classical.choose h) vars else none
theorem PK {vars:List AC} {o:Nat×List AC} (h:An step vars=some o):∃n,CI step n vars=some o:=by
 unfold An at h;split at h
 ·exact⟨_,h⟩
 ·simp at h
theorem Qir {n:Nat} {vars:List AC} {o:Nat×List AC} (h:CI step n vars=some o):An step vars=some o:=by
 unfold An;have E:∃n o,CI step n vars=some o:=⟨n,o,h⟩;rw[dif_pos E];obtain⟨G,D⟩:=dz E;rw[D,Zh0 h D]
theorem Oh (vars:List AC):An step vars=(step vars).bind λo=>if o.1=0 then An step o.2 else some o:=by
 cases I:step vars with
 |none=>
  cases E:An step vars with
  |none=>rfl
  |some o=>
   obtain⟨n,D⟩:=PK E;cases n with
   |zero=>simp[CI]at D
   |succ n=>simp[CI,I]at D
 |some q=>
  simp only[ak];by_cases G:q.1=0
  ·rw[aa G];cases E:An step q.2 with
   |none=>
    cases J:An step vars with
    |none=>rfl
    |some o=>
     obtain⟨n,D⟩:=PK J;cases n with
     |zero=>simp[CI]at D
     |succ n=>
      simp only[CI,I,ak,aa G]at D;rw[Qir D]at E;cases E
   |some o=>
    obtain⟨n,D⟩:=PK E;exact Qir (n:=n+1) (by simp only[CI,I,ak,aa G];exact D)
  ·rw[ab G];exact Qir (n:=1) (by simp only[CI,I,ak,ab G])
end loops
theorem In:∀(c:Code) (b blk:Nat) (body:Code),(blk,body)∈AN c b->(∀p∈AN body blk,p∈AN c b)/\(∀p∈A5 body,p∈A5 c)/\(∀p∈A8 body blk,p∈A8 c b)
 | .seq x y,b,blk,body,h=>by
  simp only[AN,co]at h;rcases h with h|h
  ·obtain⟨E,G,I⟩:=In x b blk body h;exact⟨λp D=>by simp[AN,E p D],λp D=>by simp[A5,G p D],λp D=>by simp[A8,I p D]⟩
  ·obtain⟨E,G,I⟩:=In y b blk body h;exact⟨λp D=>by simp[AN,E p D],λp D=>by simp[A5,G p D],λp D=>by simp[A8,I p D]⟩
 | .cond c x y,b,blk,body,h=>by
  simp only[AN,co]at h;rcases h with h|h
  ·obtain⟨E,G,I⟩:=In x b blk body h;exact⟨λp D=>by simp[AN,E p D],λp D=>by simp[A5,G p D],λp D=>by cases c<;>simp[A8,I p D]⟩
  ·obtain⟨E,G,I⟩:=In y b blk body h;exact⟨λp D=>by simp[AN,E p D],λp D=>by simp[A5,G p D],λp D=>by cases c<;>simp[A8,I p D]⟩
 | .block id x,b,blk,body,h=>by
  simp only[AN]at h;obtain⟨E,G,I⟩:=In x b blk body h;exact⟨λp D=>by simp[AN,E p D],λp D=>by simp[A5,G p D],λp D=>by simp[A8,I p D]⟩
 | .loop x,b,blk,body,h=>by
  simp only[AN,az,bt]at h;rcases h with⟨rfl,rfl⟩|h
  ·exact⟨λp D=>by rw[GO _ _ b]at D;simp[AN,D],λp D=>by simp[A5,D],λp D=>by rw[Hg _ _ b]at D;simp[A8,D]⟩
  ·obtain⟨E,G,I⟩:=In x b blk body h;exact⟨λp D=>by simp[AN,E p D],λp D=>by simp[A5,G p D],λp D=>by simp[A8,I p D]⟩
 | .skip,_,_,_,h=>by simp[AN]at h
 | .region _ _ _,_,_,_,h=>by simp[AN]at h
 | .exit _,_,_,_,h=>by simp[AN]at h
 | .ret,_,_,_,h=>by simp[AN]at h
 | .rangeFunc _ _ _ _,_,_,_,h=>by simp[AN]at h
 | .scope x,b,blk,body,h=>by
  simp only[AN]at h;obtain⟨E,G,I⟩:=In x b blk body h;exact⟨λp D=>by simp[AN,E p D],λp D=>by simp[A5,G p D],λp D=>by simp[A8,I p D]⟩
 | .label _,_,_,_,h=>by simp[AN]at h
 | .goto _,_,_,_,h=>by simp[AN]at h
 | .refuse _,_,_,_,h=>by simp[AN]at h
theorem If:∀(c:Code) (b id:Nat) (body:Code),(id,body)∈A5 c->(∀p∈AN body id,p∈AN c b)/\(∀p∈A5 body,p∈A5 c)/\(∀p∈A8 body id,p∈A8 c b)
 | .seq x y,b,id,body,h=>by
  simp only[A5,co]at h;rcases h with h|h
  ·obtain⟨E,G,I⟩:=If x b id body h;exact⟨λp D=>by simp[AN,E p D],λp D=>by simp[A5,G p D],λp D=>by simp[A8,I p D]⟩
  ·obtain⟨E,G,I⟩:=If y b id body h;exact⟨λp D=>by simp[AN,E p D],λp D=>by simp[A5,G p D],λp D=>by simp[A8,I p D]⟩
 | .cond c x y,b,id,body,h=>by
  simp only[A5,co]at h;rcases h with h|h
  ·obtain⟨E,G,I⟩:=If x b id body h;exact⟨λp D=>by simp[AN,E p D],λp D=>by simp[A5,G p D],λp D=>by cases c<;>simp[A8,I p D]⟩
  ·obtain⟨E,G,I⟩:=If y b id body h;exact⟨λp D=>by simp[AN,E p D],λp D=>by simp[A5,G p D],λp D=>by cases c<;>simp[A8,I p D]⟩
 | .block j x,b,id,body,h=>by
  simp only[A5,az,bt]at h;rcases h with⟨rfl,rfl⟩|h
  ·exact⟨λp D=>by rw[GO _ _ b]at D;simp[AN,D],λp D=>by simp[A5,D],λp D=>by rw[Hg _ _ b]at D;simp[A8,D]⟩
  ·obtain⟨E,G,I⟩:=If x b id body h;exact⟨λp D=>by simp[AN,E p D],λp D=>by simp[A5,G p D],λp D=>by simp[A8,I p D]⟩
 | .loop x,b,id,body,h=>by
  simp only[A5]at h;obtain⟨E,G,I⟩:=If x b id body h;exact⟨λp D=>by simp[AN,E p D],λp D=>by simp[A5,G p D],λp D=>by simp[A8,I p D]⟩
 | .skip,_,_,_,h=>by simp[A5]at h
 | .region _ _ _,_,_,_,h=>by simp[A5]at h
 | .exit _,_,_,_,h=>by simp[A5]at h
 | .ret,_,_,_,h=>by simp[A5]at h
 | .rangeFunc _ _ _ _,_,_,_,h=>by simp[A5]at h
 | .scope x,b,id,body,h=>by
  simp only[A5]at h;obtain⟨E,G,I⟩:=If x b id body h;exact⟨λp D=>by simp[AN,E p D],λp D=>by simp[A5,G p D],λp D=>by simp[A8,I p D]⟩
 | .label _,_,_,_,h=>by simp[A5]at h
 | .goto _,_,_,_,h=>by simp[A5]at h
 | .refuse _,_,_,_,h=>by simp[A5]at h
structure FnOK (P : Program) (C : Cfg) (f : FuncId) : Prop where
 l:∀p∈GV P f,∀sk g,C.loops p.1=some (sk,g)->HT P (.loop p.2) sk g
 b:∀p∈Io P f,∀sk g,C.blocks p.1=some (sk,g)->HT P (.block p.1 p.2) sk g
 c:∀p∈Pn P f,∀sk g,C.conds p.1=some (sk,g)->HT P (.cond (.tmp p.1) p.2.2.1 p.2.2.2) sk g
theorem FnOK.bare {P:Program} {C:Cfg} {f:FuncId} (D:C.loops=λ_=>none) (E:C.blocks=λ_=>none) (G:C.conds=λ_=>none):FnOK P C f:=
 ⟨λp _ sk g h=>by simp[D]at h,λp _ sk g h=>by simp[E]at h,λp _ sk g h=>by simp[G]at h⟩
theorem FnOK.sub {P:Program} {C:Cfg} {f:FuncId} (h:FnOK P C f) {c:Code} (E:G0 P f=some c):SubOK P C c 0:=
 ⟨λp D=>h.l p (by unfold GV;rw[E];exact D),λp D=>h.b p (by unfold Io;rw[E];exact D),λp D=>h.c p (by unfold Pn;rw[E];exact D)⟩
theorem Zmz {P:Program} {f blk:Nat} {c:Code} (h:Ab (GV P f) blk=some c):A3 P f blk=c:=by unfold A3;rw[h]
theorem Qg9 {α:Type}:∀{l:List (Nat×α)} {k:Nat} {b:α},Bz (l.map (·.1))=true->(k,b)∈l->Ab l k=some b
 |[],_,_,_,h=>by simp at h
 |(j,c)::l,k,b,E,h=>by
  have D:=Hn.1 E;simp only[ba,ik]at D;simp only[Ab];rcases az.1 h with h|h
  ·simp at h;obtain⟨rfl,rfl⟩:=h;simp
  ·have:j≠k:=by rintro rfl;exact D.1 (av.2 ⟨(j,b),h,rfl⟩)
   rw[It this];exact Qg9 (Hn.2 D.2) h
theorem FnOK.subLoop {P:Program} {C:Cfg} {f:FuncId} (h:FnOK P C f) {blk:Nat} {body:Code} (E:(blk,body)∈GV P f):SubOK P C body blk:=by
 unfold GV at E;split at E
 ·rename_i c G;obtain⟨I,J,L⟩:=In c 0 blk body E;exact⟨λp D=>h.l p (by unfold GV;rw[G];exact I p D),λp D=>h.b p (by unfold Io;rw[G];exact J p D),λp D=>h.c p (by unfold Pn;rw[G];exact L p D)⟩
 ·simp at E
theorem FnOK.subBlock {P:Program} {C:Cfg} {f:FuncId} (h:FnOK P C f) {id:Nat} {body:Code} (E:(id,body)∈Io P f):SubOK P C body id:=by
 unfold Io at E;split at E
 ·rename_i c G;obtain⟨I,J,L⟩:=If c 0 id body E;exact⟨λp D=>h.l p (by unfold GV;rw[G];exact I p D),λp D=>h.b p (by unfold Io;rw[G];exact J p D),λp D=>h.c p (by unfold Pn;rw[G];exact L p D)⟩
 ·simp at E
theorem FnOK.loop {P:Program} {C:Cfg} {f:FuncId} (h:FnOK P C f) (E:Aj P C) (M:∀t∈C.eqOk,P.stoodInHeld t=false) (I:P.follows .mixedOrders=true) {L blk:Nat} {sk:Sk} {D:List (Ex×Sk)}
  (T:Bz ((GV P f).map (·.1))=true) (N:sk.okB=true):FnOK P (C.loop blk sk D (An (A4 P C L blk (A3 P f blk) sk D))) f:=by
 refine⟨λp O S g J=> ?_,h.b,h.c⟩;simp only[Cfg.loop]at J;cases hb:Nat.beq p.1 blk<;>rw[hb]at J
 ·exact h.l p O S g J
 ·have e:=ac hb;subst e;simp only[ai,ap,bt]at J;obtain⟨rfl,rfl⟩:=J;have G:=Zmz (Qg9 (k:=p.1) (b:=p.2) T O);rw[G];exact Ziz E M I N (h.subLoop O) λvars o U=>PK U
theorem FnOK.block {P:Program} {C:Cfg} {f:FuncId} (h:FnOK P C f) (E:Aj P C) (M:∀t∈C.eqOk,P.stoodInHeld t=false) (I:P.follows .mixedOrders=true) {L id:Nat} {sk:Sk} {D:List (Ex×Sk)}
  (S:Bz ((Io P f).map (·.1))=true):FnOK P (C.block id sk D (Qwx P C L id (Wv P f id) sk D)) f:=by
 refine⟨h.l,λp N O g J=> ?_,h.c⟩;simp only[Cfg.block]at J;cases hb:Nat.beq p.1 id<;>rw[hb]at J
 ·exact h.b p N O g J
 ·have e:=ac hb;subst e;simp only[ai,ap,bt]at J;obtain⟨rfl,rfl⟩:=J;have G:Wv P f p.1=p.2:=by unfold Wv;rw[Qg9 (k:=p.1) (b:=p.2) S N]
  rw[G];exact Zon E M I (h.subBlock N) λvars o T=>T
theorem Pc {P:Program} {C:Cfg} {f:FuncId} {L:Nat} {sig D:Sk} (M:HJ P f=true) (h:FnOK P C f) (E:Aj P C) (J:∀t∈C.eqOk,P.stoodInHeld t=false) (I:P.follows .mixedOrders=true)
  (N:sig.okB=true) (O:D.okB=true):Ak P (f,Ad sig D (Al P C L f sig D)):=
 Ze3 E J I (Oq M) N O (λ_ G=>h.sub G) λ_ _ S=>S
theorem Zvp {P:Program} {C:Cfg} {f:FuncId} {L:Nat} {sig D:Sk} (_:HJ P f=true) (h:FnOK P C f) (E:Aj P C) (M:∀t∈C.eqOk,P.stoodInHeld t=false) (I:P.follows .mixedOrders=true)
  (N:sig.okB=true) (O:D.okB=true) (args:List TV) (v:TV) (mem':Mem) (J:(Ad sig D (Al P C L f sig D) (TV×Mem) args ⟨[],[]⟩ λv m=>some (v,m))=some (v,mem')):PCallM P f args ⟨[],[]⟩ v mem':=
 Qun E M I N O (λ_ G=>h.sub G) (λ_ _ S=>S) J
theorem Q0n {P:Program} {f:FuncId} {sig D:Sk}:Ak P (f,Ad sig D λ_=>none):=by
 refine⟨Qc3,λargs mem v mem' h=> ?_⟩;obtain⟨aB,aC⟩:=mem;simp only[Ad]at h;obtain⟨_,h⟩:=BI h;split at h
 ·simp at h
 ·simp at h
mutual
def EZ:AC->AC->Bool
 | .int k n, .int k' E=>kEq k k'&&n==E
 | .bool b, .bool b'=>b==b'
 | .nilSl, .nilSl=>true
 | .vC ks l, .vC D G=>Cj ks D&&Ko l G
 |_,_=>false
def J3:List AC->List AC->Bool
 |[],[]=>true
 |a::l,b::m=>EZ a b&&J3 l m
 |_,_=>false
def Ko:List (List AC)->List (List AC)->Bool
 |[],[]=>true
 |a::l,b::m=>J3 a b&&Ko l m
 |_,_=>false
end
mutual
theorem Zi2:∀(a b:AC),EZ a b=true->a=b
 | .int k n,b,h=>by cases b<;>simp[EZ]at h;rw[M_ h.1,h.2]
 | .bool x,b,h=>by cases b<;>simp[EZ]at h;rw[h]
 | .nilSl,b,h=>by cases b<;>simp[EZ]at h;rfl
 | .vC ks l,b,h=>by cases b<;>simp[EZ]at h;rw[Hp h.1,Q2o _ _ h.2]
 | .dead,b,h=>by cases b<;>simp[EZ]at h
 | .raw _,b,h=>by cases b<;>simp[EZ]at h
 | .ptr _ _,b,h=>by cases b<;>simp[EZ]at h
 | .own _ _ _,b,h=>by cases b<;>simp[EZ]at h
 | .rptr _ _ _,b,h=>by cases b<;>simp[EZ]at h
 | .vptr _ _,b,h=>by cases b<;>simp[EZ]at h
 | .clo _ _ _,b,h=>by cases b<;>simp[EZ]at h
 | .bsl _ _,b,h=>by cases b<;>simp[EZ]at h
theorem Ya:∀(a b:List AC),J3 a b=true->a=b
 |[],[],_=>rfl
 |x::l,y::m,h=>by simp[J3]at h;rw[Zi2 x y h.1,Ya l m h.2]
 |[],_::_,h=>by simp[J3]at h
 |_::_,[],h=>by simp[J3]at h
theorem Q2o:∀(a b:List (List AC)),Ko a b=true->a=b
 |[],[],_=>rfl
 |x::l,y::m,h=>by simp[Ko]at h;rw[Ya x y h.1,Q2o l m h.2]
 |[],_::_,h=>by simp[Ko]at h
 |_::_,[],h=>by simp[Ko]at h
end
def Md:List (Nat×Box)->List (Nat×Box)->Bool
 |[],[]=>true
 |(k,b)::l,(k',b')::m=>Nat.beq k k'&&(Nat.beq b.ty b'.ty&&(J3 b.cells b'.cells&&Md l m))
 |_,_=>false
theorem Qpj:∀{l m:List (Nat×Box)},Md l m=true->l=m
 |[],[],_=>rfl
 |(k,⟨t,c⟩)::l,(k',⟨D,c'⟩)::m,h=>by
  simp only[Md,al]at h;rw[ac h.1,ac h.2.1,Ya _ _ h.2.2.1,Qpj h.2.2.2]
 |[],_::_,h=>by simp[Md]at h
 |_::_,[],h=>by simp[Md]at h
def Ke:Mem->Mem->Bool
 |⟨b,[]⟩,⟨b',[]⟩=>Md b b'
 |_,_=>false
theorem Q3i {m D:Mem} (h:Ke m D=true):m=D:=by
 obtain⟨b,r⟩:=m;obtain⟨b',r'⟩:=D;cases r<;>cases r'<;>simp[Ke]at h
 rw[Qpj h]
def GY (P:Program) (D:Cfg) (L:Nat):Nat->FuncId->Option Spec
 |0,f=>D.spec f
 |n+1,f=>match D.spec f with
  |some g=>some g
  | none => bif HJ P f then some (λ_ args mem K => match F3 P { D with spec := GY P D L n } L f args mem (λv m => some (v, m)) with
   |some (v,m)=>bif D.ro f then(bif Ke m mem then K v m else none)else K v m
   |none=>none)else none
theorem Qse {P:Program} {D:Cfg} {L:Nat} (S:Aj P D) (X:D.loops=λ_=>none) (Y:D.blocks=λ_=>none) (h3:D.conds=λ_=>none) (N:∀t∈D.eqOk,P.stoodInHeld t=false) (I:P.follows .mixedOrders=true) (O:D.keepR=λ_=>false:=by rfl):
  ∀n,Aj P {D with spec:=GY P D L n}
 |0=>S
 |n+1=>by
  have key : ∀ (f : FuncId) (g : Spec), GY P D L (n + 1) f = some g -> (D.spec f = some g) \/ (HJ P f = true /\ g = λ_ args mem K => match F3 P { D with spec := GY P D L n } L f args mem (λv m => some (v, m)) with
   |some (v,m)=>bif D.ro f then(bif Ke m mem then K v m else none)else K v m
   |none=>none):=by
   intro f g E;simp only[GY]at E;split at E
   ·rename_i g' G;simp only[ap]at E;subst E;exact .inl G
   ·obtain⟨T,E⟩:=Zo5 E;exact .inr ⟨T,(Option.some.inj E).symm⟩
  refine⟨λf g E=> ?_,λf g E J=> ?_,λf g _ h=>(by dsimp only at h;rw[O]at h;cases h)⟩
  ·rcases key f g E with G|⟨T,rfl⟩
   ·exact S.1 f g G
   ·refine⟨λR args mem K=> ?_,λargs mem v mem' h=> ?_⟩
    ·dsimp only;cases F3 P {D with spec:=GY P D L n} L f args mem (λv m=>some (v,m))with
     |none=>rfl
     |some p=>
      dsimp only;cases D.ro f
      ·rfl
      ·cases Ke p.2 mem<;>rfl
    ·refine PCallM.x (v:=v) (mem':=mem') (Zrm (Qse S X Y h3 N I O n) N I (L:=L) (λc M=>FnOK.sub (C:={D with spec:=GY P D L n}) (FnOK.bare X Y h3) M) ?_) (Oq T);cases hf:F3 P {D with spec:=GY P D L n} L f args mem (λv m=>some (v,m))with
     |none=>rw[hf]at h;simp at h
     |some p=>
      obtain⟨p1,V⟩:=p;rw[hf]at h;dsimp only at h;cases hr:D.ro f<;>rw[hr]at h
      ·simpa using h
      ·cases U:Ke V mem<;>rw[U]at h
       ·simp at h
       ·simpa using h
  ·rcases key f g E with G|⟨T,rfl⟩
   ·exact S.2.1 f g G J
   ·intro args mem v m h;dsimp only at h J;cases hf:F3 P {D with spec:=GY P D L n} L f args mem (λv m=>some (v,m))with
    |none=>rw[hf]at h;simp at h
    |some p=>
     obtain⟨p1,V⟩:=p;rw[hf]at h;dsimp only at h;rw[J]at h;cases U:Ke V mem<;>rw[U]at h
     ·simp at h
     ·simp only[ai,ap,bt]at h;rw[<-h.2];exact Q3i U
section
variable {H α:Type}
theorem Zi3 (F G:List (DataW H)->α) (h:∀a b c d e f g,F [a,b,c,d,e,f,g]=G [a,b,c,d,e,f,g]) (l:List (DataW H)) (D:l.length=7):F l=G l:=by
 match l,D with
 |[a,b,c,d,e,f,g],_=>exact h a b c d e f g
end
theorem JE {l:List Ar} {s:Bool×List Kd} {D:List (Bool×List Kd)} (h:l.map Ar.sh=s::D):∃a E,l=a::E/\a.agg=s.1/\a.ks=s.2/\E.map Ar.sh=D:=by
 cases l with
 |nil=>simp at h
 |cons a E=>
  simp only[ba,fh]at h;refine⟨a,E,rfl,?_,?_,h.2⟩
  ·rw[<-h.1];rfl
  ·rw[<-h.1];rfl
theorem Ze5 {l:List Ar} (h:l.map Ar.sh=[]):l=[]:=by
 cases l with
 |nil=>rfl
 |cons a D=>simp at h
theorem Qrv {R:Type} {K:TV->Mem->Option R} (s:St):goK K s=(goK (λv m=>some (v,m)) s).bind λp=>K p.1 p.2:=by
 obtain⟨tm,b,r⟩:=s
 match tm with
 |[]=>rfl
 |[v]=>rfl
 |_::_::_=>rfl
theorem Zoh {sig D E:Sk} {G:List AC->Bool} {m:List AC->Option (List AC)} (R:Type) (args:List TV) (mem:Mem) (K:TV->Mem->Option R):GD sig D E G m R args mem K=(GD sig D E G m (TV×Mem) args mem λv m=>some (v,m)).bind λp=>K p.1 p.2:=by
 obtain⟨aB,aC⟩:=mem;simp only[GD];cases Ai (λp:Nat×Box=>CR p.1) aB
 ·rfl
 ·simp only[ai];cases Fl sig ⟨args,aB,aC⟩with
  |none=>rfl
  |some vars=>
   dsimp only;cases m vars with
   |none=>rfl
   |some o=>
    simp only[ak];cases G o
    ·exact Qrv _
    ·exact Qrv _
theorem Qvn {s:St} {v:TV} {mem:Mem} (h:goK (λv m=>some (v,m)) s=some (v,mem)):s=⟨[v],mem.aB,mem.aC⟩:=by
 obtain⟨tm,b,r⟩:=s
 match tm,h with
 |[],h=>simp[goK]at h
 |[u],h=>simp only[goK,ap,bt]at h;obtain⟨rfl,rfl⟩:=h;rfl
 |_::_::_,h=>simp[goK]at h
theorem Q84 {P:Program} {C:Cfg} (I:Aj P C) (a0:∀t∈C.eqOk,P.stoodInHeld t=false) (T:P.follows .mixedOrders=true) {L:Nat} {f:FuncId} {sig J M:Sk} {V:List AC->Bool} (h1:sig.okB=true) (h2:J.okB=true) (h3:M.okB=true)
  (U:∀c,G0 P f=some c->SubOK P C c 0) {args:List TV} {mem:Mem} {v:TV} {mem':Mem} (h:(GD sig J M V (Oi P C L f sig J M V) (TV×Mem) args mem λv m=>some (v,m))=some (v,mem')):PCallM P f args mem v mem':=by
 obtain⟨aB,aC⟩:=mem;simp only[GD]at h;obtain⟨a1,h⟩:=BI h;split at h
 ·rename_i vars hv;simp only[cr]at h;obtain⟨o,G,h⟩:=h;intro F w hG ρ xs a2;have X:InZ (DG F w ρ aB hG):=Qg a1;have N:=a2.rebuild X h1 hv;unfold Oi at G;generalize hs:Ce sig vars=s1 at G N;obtain⟨a3,Y,a4⟩:=s1;dsimp only at G N;refine(Qjd I a0 T X U G N).mono ?_;rintro e w' ⟨x,ρ',v',m',he,D,O⟩;obtain⟨b',r'⟩:=m';dsimp only at D O;split at D
  ·rename_i oA hA;obtain⟨S,D⟩:=BI D;simp only[ap]at D;subst D;have E:=O.rebuild X h2 hA;rw[S,ai]at h;rw[Qvn h]at E;exact⟨x,ρ',he,E⟩
  ·split at D
   ·rename_i oB hB;have S:V oB=false:=by cases S:V oB<;>rw[S]at D<;>simp_all
    rw[S,ao]at D;simp only[ap]at D;subst D;have E:=O.rebuild X h3 hB;rw[S,ao]at h;rw[Qvn h]at E;exact⟨x,ρ',he,E⟩
   ·simp at D
 ·simp at h
theorem Qp9 {P:Program} {C:Cfg} {f:FuncId} {L:Nat} {sig D E:Sk} {N:List AC->Bool} (O:HJ P f=true) (h:FnOK P C f) (G:Aj P C) (M:∀t∈C.eqOk,P.stoodInHeld t=false) (J:P.follows .mixedOrders=true)
  (S:sig.okB=true) (T:D.okB=true) (U:E.okB=true):Ak P (f,GD sig D E N (Oi P C L f sig D E N)):=
 ⟨Zoh,λ_ _ _ _ V=>PCallM.x (Q84 G M J S T U (λ_ I=>h.sub I) V) (Oq O)⟩
open Go.RowKit
section
variable {P:Program} {C:Cfg} {w:World} {Z:Base} {R:Type}
def Zlu (Z:Base) (K:Ex->St->Option R) (r:R) (d:List Deferred) (E:Value):Exit->Act->World->Prop:=
 λe a w=>∃D s,Nl D=e/\K D s=some r/\Rel Z s a.tmps w/\a.defers=d/\a.tmps.getD 0 undef=E
def Zj7 (P:Program) (c:Code) (sk:Sk) (g:Hs):Prop:=
 ∀(Z:Base) (_:InZ Z) (a:Act) (w:World) (vars:List AC) (R:Type) (K:Ex->St->Option R) (r:R),Rel Z (Ce sk vars) a.tmps w->g R vars K=some r->c.wp P (Zlu Z K r a.defers (a.tmps.getD 0 undef)) a w
structure KeepOK (P : Program) (C : Cfg) (c : Code) : Prop where
 l:∀p∈AN c 0,∃sk g,C.loops p.1=some (sk,g)/\Zj7 P (.loop p.2) sk g
 b:C.blocks=λ_=>none
 c:C.conds=λ_=>none
def AllKp (P:Program) (ks:List Nat):List (Nat×Spec)->Prop
 |[]=>True
 |p::l=>(AI ks p.1=false\/Qap P p.1 p.2)/\AllKp P ks l
theorem AllKp.mem {P:Program} {ks:List Nat}:∀{l:List (Nat×Spec)},AllKp P ks l->∀p∈l,AI ks p.1=false\/Qap P p.1 p.2
 |_::l,h,p,D=>by
  rcases az.1 D with rfl|D
  ·exact h.1
  ·exact AllKp.mem h.2 p D
end
end Go.Bm
