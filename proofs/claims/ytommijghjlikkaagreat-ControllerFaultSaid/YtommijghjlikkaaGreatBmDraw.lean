/- The abstract machine, second form: a region that draws its order: every order comes to what the text's order comes to. -/
import Derived.Test.YtommijghjlikkaaGreatBmCode
set_option linter.unusedVariables false
set_option linter.unusedSimpArgs false
namespace Go.Bm
open Go.RowKit
def R6 (s:St) (d:Option Tmp) (v:TV):St:=
 match d with
 |none=>s
 |some t=>⟨setL s.tmps t v,s.boxes,s.rows⟩
section
variable {P:Program} {C:Cfg} {w:World} {R:Type} {Z:Base}
theorem KT (s:St) (d:Option Tmp) (v:TV) (K:St->Option R):put s d v K=K (R6 s d v):=Fi s d v K
def Au (dst:Option Tmp) (p:Prim) (boxes:List (Nat×Box)) (rows:List (Nat×Row)):Option (TV×List (Nat×Box)):=
 match p with
 | .val v=>some (v,boxes)
 | .load g sz key off=>match Ab boxes key with
  |some b=>match Dl g sz b.cells off with
   |some v=>some (v,boxes)
   |none=>none
  |none=>none
 | .store key off cs=>match Ab boxes key with
  |some b=>if Nat.ble (off+cs.length) b.cells.length then some (.dead,upd boxes key ⟨b.ty,splice b.cells off cs⟩)else none
  |none=>none
 | .new ty cs=>match dst with
  |some d=>match Ab boxes d with
   |some _=>none
   |none=>some (.c (.ptr d 0),ins boxes d ⟨ty,cs⟩)
  |none=>none
 | .newView _ ks l=>some (.c (.view ks l),boxes)
 | .rload g sz id idx sub=>match Ab rows id with
  |some r=>match Dl g sz (r.f idx) sub with
   |some v=>some (v,boxes)
   |none=>none
  |none=>none
 | .call f args=>match C.spec f with
  |some g=>match GQ rows args with
   |some l=>match g (TV×Mem) l ⟨[],[]⟩ (fun v m=>some (v,m))with
    |some (v,⟨[],[]⟩)=>if((!(args.any TV.hasOwn)||v.flat)&&v.plainB)=true then some (v,boxes)else none
    |_=>none
   |none=>none
  |none=>none
 | .callD f args=>match C.spec f with
  |some g=>
   if(Aj (TV.inK (AU (cat AC.keys (cat TV.cellsOf args)) []) []) args&&Aj (fun k=>Aj AC.calm (Es boxes k)) (AU (cat AC.keys (cat TV.cellsOf args)) [])&&BF (AU (cat AC.keys (cat TV.cellsOf args)) []))=true then
    match Dr boxes (fun k=>base+pos (AU (cat AC.keys (cat TV.cellsOf args)) []) k) (fun i=>base+pos [] i) base (AU (cat AC.keys (cat TV.cellsOf args)) [])with
    |some mb=>match g (TV×Mem) (args.map (TV.ren (fun k=>base+pos (AU (cat AC.keys (cat TV.cellsOf args)) []) k) (fun i=>base+pos [] i))) ⟨mb,[]⟩ (fun v m=>some (v,m))with
     |some (v,⟨mb',[]⟩)=>
      if(Aj (fun p:Nat×Box=>DX mb' p.1) mb&&Aj (fun p:Nat×Box=>DX mb p.1) mb'&&BF (mb'.map (·.1))&&Aj (fun p:Nat×Box=>Aj AC.calm p.2.cells) mb'&&v.plainB)=true then
       some (v,Ce (AU (cat AC.keys (cat TV.cellsOf args)) []) mb' boxes)
      else none
     |_=>none
    |none=>none
   else none
  |none=>none
 |_=>none
theorem Zj9 (hspec:Ai P C) {dst:Option Tmp} {p:Prim} (hs:Prim.simple (some p)=true) (hna:Prim.isApp (some p)=false) (hnm:Prim.isMk (some p)=false) (s:St) (K:TV->St->Option R):
  AY C dst p s K=(Au (C:=C) dst p s.boxes s.rows).bind fun q=>K q.1 ⟨s.tmps,q.2,s.rows⟩:=by
 obtain⟨tm,boxes,rows⟩:=s;cases p<;>simp only[Prim.simple]at hs<;>try (simp at hs;done)
 case appD=>simp[Prim.isApp]at hna
 case callF=>simp[Prim.isMk]at hnm
 case newRow=>simp[Prim.isMk]at hnm
 case val v=>rfl
 case newView e ks l=>rfl
 case rload g sz id idx sub=>
  simp only[AY,Au];cases h1:Ab rows id with
  |none=>rfl
  |some r=>
   dsimp only;cases h2:Dl g sz (r.f idx) sub<;>rfl
 case load g sz key off=>
  simp only[AY,Au];cases h1:Ab boxes key with
  |none=>rfl
  |some b=>
   dsimp only;cases h2:Dl g sz b.cells off<;>rfl
 case store key off cs=>
  simp only[AY,Au];cases h1:Ab boxes key with
  |none=>rfl
  |some b=>
   dsimp only;cases Nat.ble (off+cs.length) b.cells.length
   ·rfl
   ·simp only[cond_true,A0,if_true,Option.bind_some]
 case new ty cs=>
  simp only[AY,Au];cases dst with
  |none=>rfl
  |some d=>
   dsimp only;cases h1:Ab boxes d with
   |some _=>rfl
   |none=>simp only[A0,Option.bind_some]
 case call f args=>
  simp only[AY,Au];cases h1:C.spec f with
  |none=>rfl
  |some g=>
   dsimp only;cases h2:GQ rows args with
   |none=>rfl
   |some l=>
    dsimp only;have hsp:=hspec.1 f g h1;rw[hsp.nat];cases h3:g (TV×Mem) l ⟨[],[]⟩ (fun v m=>some (v,m))with
    |none=>rfl
    |some q=>
     obtain⟨v,⟨mb,mr⟩⟩:=q;simp only[Option.bind_some];cases mb with
     |cons _ _=>rfl
     |nil=>
      cases mr with
      |cons _ _=>rfl
      |nil=>
       dsimp only;cases((!(args.any TV.hasOwn)||v.flat)&&v.plainB)<;>rfl
 case callD f args=>
  simp only[AY,Au];cases h1:C.spec f with
  |none=>rfl
  |some g=>
   dsimp only;simp only[A0];generalize AU (cat AC.keys (cat TV.cellsOf args)) []=keys;cases hc:(Aj (TV.inK keys []) args&&Aj (fun k=>Aj AC.calm (Es boxes k)) keys&&BF keys)
   ·simp
   ·simp only[cond_true,if_true];cases h2:Dr boxes (fun k=>base+pos keys k) (fun i=>base+pos [] i) base keys with
    |none=>rfl
    |some mb=>
     dsimp only;have hsp:=hspec.1 f g h1;rw[hsp.nat];cases h3:g (TV×Mem) (args.map (TV.ren (fun k=>base+pos keys k) (fun i=>base+pos [] i))) ⟨mb,[]⟩ (fun v m=>some (v,m))with
     |none=>rfl
     |some q=>
      obtain⟨v,⟨mb',mr⟩⟩:=q;simp only[Option.bind_some];cases mr with
      |cons _ _=>rfl
      |nil=>
       dsimp only;cases(Aj (fun p:Nat×Box=>DX mb' p.1) mb&&Aj (fun p:Nat×Box=>DX mb p.1) mb'&&BF (mb'.map (·.1))&&Aj (fun p:Nat×Box=>Aj AC.calm p.2.cells) mb'&&v.plainB)<;>rfl
theorem BQ {α:Type} {c:Bool} {p:Option α} {q:α} (h:cond c p none=some q):c=true/\p=some q:=by cases c<;>simp at h;exact⟨rfl,h⟩
def Qdn (rows:List (Nat×Row)) (e:TypeId) (ks:List Kd) (bytes id:Nat) (x:AC):Option (TV×List (Nat×Row)):=
 match GZ rows ks x with
 |some m=>match Ab rows id with
  |some r=>if(CR ks r.ks&&Nat.beq r.ty e&&Nat.ble 1 bytes)=true then
    if Nat.ble ((r.l++m).length*bytes) 140737488355328=true then some (.c (.own id r.ks.length (r.l++m).length),upd rows id ⟨e,r.ks,r.l++m⟩)else none
   else none
  |none=>none
 |none=>none
def Qng (id:Nat) (tm:List TV) (bx:List (Nat×Box)) (rows:List (Nat×Row)):St:=⟨tm.map (TV.kill id),bx.map fun p=>(p.1,p.2.kill id),rows⟩
def Qfi (rows:List (Nat×Row)) (e:TypeId) (ks:List Kd) (bytes d:Nat) (x:AC):Option (TV×List (Nat×Row)):=
 match GZ rows ks x with
 |some m=>match Ab rows d with
  |some _=>none
  |none=>if(Nat.ble 1 ks.length&&Nat.ble 1 bytes)=true then
    if Nat.ble (m.length*bytes) 140737488355328=true then some (.c (.own d ks.length m.length),ins rows d ⟨e,ks,m⟩)else none
   else none
 |none=>none
def Jz (dst:Option Tmp):Prim->Option Nat
 | .appD _ _ _ (.own id _ _) _=>some id
 | .appD _ _ _ .nilSl _=>dst
 |_=>none
def JK (dst:Option Tmp) (rows:List (Nat×Row)):Prim->Option (TV×List (Nat×Row))
 | .appD e ks bytes (.own id _ _) x=>Qdn rows e ks bytes id x
 | .appD e ks bytes .nilSl x=>match dst with
  |some d=>Qfi rows e ks bytes d x
  |none=>none
 |_=>none
def mkG (dst:Option Tmp) (p:Prim):Option (TV×Option (Nat×Row)):=
 match p with
 | .newRow e ks l=>match dst with
  |some d=>some (.c (.own (C.rowAs d) ks.length l.length),some (C.rowAs d,⟨e,ks,l⟩))
  |none=>none
 | .callF f args=>match C.spec f with
  |some g=>if Aj TV.plainB args=true then match g (TV×Mem) args ⟨[],[]⟩ (fun v m=>some (v,m))with
    |some (v,⟨[],[]⟩)=>if v.plainB=true then some (v,none)else none
    |some (.v false [.own j _ _],⟨[],[(k,r)]⟩)=>if Nat.beq j k=true then some (.c (.own (Ho (dst.getD 0)) r.ks.length r.l.length),some (Ho (dst.getD 0),r))else none
    |_=>none
   else none
  |none=>none
 |_=>none
def mkD (dst:Option Tmp) (p:Prim) (rows:List (Nat×Row)):Option (TV×List (Nat×Row)):=
 match mkG (C:=C) dst p with
 |some (v,none)=>some (v,rows)
 |some (v,some (k,r))=>match Ab rows k with
  |some _=>none
  |none=>some (v,ins rows k r)
 |none=>none
def EX (dst:Option Tmp) (p:Prim) (s:St):Option (TV×St):=
 bif Prim.isApp (some p)then match Jz dst p with
  |some id=>(JK dst s.rows p).map fun q=>(q.1,Qng id s.tmps s.boxes q.2)
  |none=>none
 else bif Prim.isMk (some p)then(mkD (C:=C) dst p s.rows).map fun q=>(q.1,⟨s.tmps,s.boxes,q.2⟩)
 else(Au (C:=C) dst p s.boxes s.rows).map fun q=>(q.1,⟨s.tmps,q.2,s.rows⟩)
theorem Qwf (hspec:Ai P C) {dst:Option Tmp} {p:Prim} (hs:Prim.simple (some p)=true) (s:St) (K:TV->St->Option R):
  AY C dst p s K=(EX (C:=C) dst p s).bind fun q=>K q.1 q.2:=by
 cases hp:Prim.isApp (some p)with
 |false=>
  cases hk:Prim.isMk (some p)with
  |false=>
   rw[Zj9 hspec hs (by rw[hp]) hk];unfold EX;rw[hp,hk];simp only[cond_false];cases Au (C:=C) dst p s.boxes s.rows<;>rfl
  |true=>
   obtain⟨tm,boxes,rows⟩:=s;unfold EX;rw[hp,hk];simp only[cond_false,cond_true];cases p<;>simp[Prim.isMk]at hk
   case newRow e ks l=>
    simp only[AY,mkD,mkG];cases dst with
    |none=>rfl
    |some d=>
     dsimp only;cases Ab rows (C.rowAs d)with
     |some _=>rfl
     |none=>simp only[A0];rfl
   case callF f args=>
    simp only[AY,mkD,mkG];cases h1:C.spec f with
    |none=>rfl
    |some g=>
     dsimp only;cases h2:Aj TV.plainB args
     ·rfl
     simp only[cond_true,if_true];have hsp:=hspec.1 f g h1;rw[hsp.nat];cases h3:g (TV×Mem) args ⟨[],[]⟩ (fun v m=>some (v,m))with
     |none=>rfl
     |some q=>
      obtain⟨v,⟨mb,mr⟩⟩:=q;simp only[Option.bind_some];cases mb with
      |cons _ _=>cases v<;>rfl
      |nil=>
       cases mr with
       |nil=>
        dsimp only;cases v.plainB<;>rfl
       |cons p l=>
        obtain⟨k,r⟩:=p;cases l with
        |cons _ _=>rfl
        |nil=>
         dsimp only;split
         ·rename_i j w0 n0;cases hjk:Nat.beq j k
          ·simp only[hjk,Bool.false_eq_true,if_false];rfl
          ·simp only[cond_true,hjk,if_true];cases hl:Ab rows (Ho (dst.getD 0))with
           |some _=>simp only[hl];rfl
           |none=>simp only[A0,hl];rfl
         ·rename_i hno;cases v with
          |dead=>rfl
          |tup ps=>rfl
          |v g cs=>
           cases g with
           |true=>rfl
           |false=>
            cases cs with
            |nil=>rfl
            |cons a l=>
             cases l with
             |cons _ _=>cases a<;>rfl
             |nil=>cases a<;>first|rfl|exact absurd rfl (hno _ _ _)
 |true=>
  obtain⟨tm,boxes,rows⟩:=s;cases p<;>simp[Prim.isApp]at hp
  rename_i e ks bytes sv x;unfold EX;simp only[Prim.isApp,cond_true,AY];cases sv
  case own id w' n=>
   dsimp only[Jz,JK,Qdn];cases GZ rows ks x with
   |none=>rfl
   |some m=>
    dsimp only;cases Ab rows id with
    |none=>rfl
    |some r=>
     dsimp only;cases(CR ks r.ks&&Nat.beq r.ty e&&Nat.ble 1 bytes)
     ·rfl
     ·simp only[cond_true,if_true];cases Nat.ble ((r.l++m).length*bytes) 140737488355328
      ·rfl
      ·simp only[cond_true,if_true,A0];rfl
  case nilSl=>
   dsimp only[Jz,JK];cases dst with
   |none=>cases GZ rows ks x<;>rfl
   |some d=>
    dsimp only[Qfi];cases GZ rows ks x with
    |none=>rfl
    |some m=>
     dsimp only;cases Ab rows d with
     |some _=>rfl
     |none=>
      dsimp only;cases(Nat.ble 1 ks.length&&Nat.ble 1 bytes)
      ·rfl
      ·simp only[cond_true,if_true];cases Nat.ble (m.length*bytes) 140737488355328
       ·rfl
       ·simp only[cond_true,if_true,A0];rfl
  all_goals
   dsimp only[Jz];cases GZ rows ks x<;>rfl
theorem Zwy (hspec:Ai P C) {dst:Option Tmp} {p:Prim} {s:St} {K:TV->St->Option R} {r:R} (h:AY C dst p s K=some r):∃v s',K v s'=some r:=by
 obtain⟨tm,boxes,rows⟩:=s;cases p<;>simp only[AY]at h
 case val v=>exact⟨_,_,h⟩
 case newView e ks l=>exact⟨_,_,h⟩
 case load g sz key off=>
  repeat' split at h
  all_goals first|(simp at h;done)|exact⟨_,_,h⟩
 case store key off cs=>
  split at h
  ·rename_i b _;cases hb:Nat.ble (off+cs.length) b.cells.length<;>rw[hb]at h
   ·simp at h
   ·simp only[cond_true,A0]at h;exact⟨_,_,h⟩
  ·simp at h
 case new ty cs=>
  split at h
  ·split at h
   ·simp at h
   ·simp only[A0]at h;exact⟨_,_,h⟩
  ·simp at h
 case newS ty n cs=>
  split at h
  ·split at h
   ·simp at h
   ·simp only[A0]at h;exact⟨_,_,h⟩
  ·simp at h
 case rload g sz id idx sub=>
  repeat' split at h
  all_goals first|(simp at h;done)|exact⟨_,_,h⟩
 case rstore id idx sub cs=>
  split at h
  ·rename_i r0 _;cases hb:(Nat.ble (sub+cs.length) r0.w&&Aj AC.plain cs)<;>rw[hb]at h
   ·simp at h
   ·simp only[cond_true]at h;split at h
    ·simp only[A0]at h;exact⟨_,_,h⟩
    ·simp at h
  ·simp at h
 case newRow e ks l=>
  split at h
  ·split at h
   ·simp at h
   ·simp only[A0]at h;exact⟨_,_,h⟩
  ·simp at h
 case make e ks bytes n z=>
  split at h
  ·split at h
   ·simp at h
   ·obtain⟨_,h⟩:=BQ h;simp only[A0]at h;exact⟨_,_,h⟩
  ·simp at h
 case cutR id a=>
  split at h
  ·obtain⟨_,h⟩:=BQ h;simp only[A0]at h;exact⟨_,_,h⟩
  ·simp at h
 case append e ks bytes s x=>
  split at h
  ·split at h
   ·split at h
    ·split at h
     ·simp at h
     ·obtain⟨_,h⟩:=BQ h;obtain⟨_,h⟩:=BQ h;simp only[A0]at h;exact⟨_,_,h⟩
    ·simp at h
   ·split at h
    ·obtain⟨_,h⟩:=BQ h;obtain⟨_,h⟩:=BQ h;simp only[A0]at h;exact⟨_,_,h⟩
    ·simp at h
   ·simp at h
  ·simp at h
 case call f args=>
  split at h
  ·rename_i g hg;split at h
   ·obtain⟨v,m,h',_⟩:=(hspec.1 f g hg).run h;split at h'
    ·obtain⟨_,h'⟩:=BQ h';exact⟨_,_,h'⟩
    ·simp at h'
   ·simp at h
  ·simp at h
 case callM f args=>
  split at h
  ·rename_i g hg;simp only[A0]at h;obtain⟨_,h⟩:=BQ h;split at h
   ·obtain⟨v,m,h',_⟩:=(hspec.1 f g hg).run h;obtain⟨_,h'⟩:=BQ h';exact⟨_,_,h'⟩
   ·simp at h
  ·simp at h
 case callF f args=>
  split at h
  ·rename_i g hg;obtain⟨_,h⟩:=BQ h;obtain⟨v,m,h',_⟩:=(hspec.1 f g hg).run h;split at h'
   ·obtain⟨_,h'⟩:=BQ h';exact⟨_,_,h'⟩
   ·split at h'
    ·obtain⟨_,h'⟩:=BQ h';split at h'
     ·simp at h'
     ·simp only[A0]at h';exact⟨_,_,h'⟩
    ·simp at h'
   ·simp at h'
  ·simp at h
 case appD e ks bytes s x=>
  split at h
  ·split at h
   ·split at h
    ·obtain⟨_,h⟩:=BQ h;obtain⟨_,h⟩:=BQ h;simp only[A0]at h;exact⟨_,_,h⟩
    ·simp at h
   ·split at h
    ·split at h
     ·simp at h
     ·obtain⟨_,h⟩:=BQ h;obtain⟨_,h⟩:=BQ h;simp only[A0]at h;exact⟨_,_,h⟩
    ·simp at h
   ·simp at h
  ·simp at h
 case callD f args=>
  split at h
  ·rename_i g hg;simp only[A0]at h;obtain⟨_,h⟩:=BQ h;split at h
   ·obtain⟨v,m,h',_⟩:=(hspec.1 f g hg).run h;split at h'
    ·obtain⟨_,h'⟩:=BQ h';exact⟨_,_,h'⟩
    ·simp at h'
   ·simp at h
  ·simp at h
theorem Qso (hspec:Ai P C) (dst:Option Tmp) (p:Prim) (s:St) (K:TV->St->Option R):AY C dst p s K=(AY C dst p s fun v s'=>some (v,s')).bind fun q=>K q.1 q.2:=by
 obtain⟨tm,boxes,rows⟩:=s;cases p<;>simp only[AY,A0]
 case val v=>rfl
 case newView e ks l=>rfl
 case load g sz key off=>
  cases Ab boxes key with
  |none=>rfl
  |some b=>
   dsimp only;cases Dl g sz b.cells off<;>rfl
 case store key off cs=>
  cases Ab boxes key with
  |none=>rfl
  |some b=>
   dsimp only;cases Nat.ble (off+cs.length) b.cells.length<;>rfl
 case new ty cs=>
  cases dst with
  |none=>rfl
  |some d=>
   dsimp only;cases Ab boxes d<;>rfl
 case newS ty n cs=>
  cases dst with
  |none=>rfl
  |some d=>
   dsimp only;cases Ab boxes d<;>rfl
 case rload g sz id idx sub=>
  cases Ab rows id with
  |none=>rfl
  |some r=>
   dsimp only;cases Dl g sz (r.f idx) sub<;>rfl
 case rstore id idx sub cs=>
  cases Ab rows id with
  |none=>rfl
  |some r=>
   dsimp only;cases(Nat.ble (sub+cs.length) r.w&&Aj AC.plain cs)
   ·rfl
   ·simp only[cond_true];cases Ib r.ks (splice (r.f idx) sub cs)<;>rfl
 case newRow e ks l=>
  cases dst with
  |none=>rfl
  |some d=>
   dsimp only;cases Ab rows (C.rowAs d)<;>rfl
 case make e ks bytes n z=>
  cases dst with
  |none=>rfl
  |some d=>
   dsimp only;cases Ab rows d with
   |some _=>rfl
   |none=>
    dsimp only;cases(decide (0<=n)&&decide (n*(bytes:Int)<=140737488355328))<;>rfl
 case cutR id a=>
  cases Ab rows id with
  |none=>rfl
  |some r=>
   dsimp only;cases Nat.ble a r.l.length<;>rfl
 case append e ks bytes s x=>
  cases GZ rows ks x with
  |none=>rfl
  |some m=>
   dsimp only;cases s
   case nilSl=>
    dsimp only;cases dst with
    |none=>rfl
    |some d=>
     dsimp only;cases Ab rows d with
     |some _=>rfl
     |none=>
      dsimp only;cases(Nat.ble 1 ks.length&&Nat.ble 1 bytes)
      ·rfl
      ·simp only[cond_true];cases Nat.ble (m.length*bytes) 140737488355328<;>rfl
   case own id w' n=>
    dsimp only;cases Ab rows id with
    |none=>rfl
    |some r=>
     dsimp only;cases(CR ks r.ks&&Nat.beq r.ty e&&Nat.ble 1 bytes)
     ·rfl
     ·simp only[cond_true];cases Nat.ble ((r.l++m).length*bytes) 140737488355328<;>rfl
   all_goals rfl
 case appD e ks bytes s x=>
  cases GZ rows ks x with
  |none=>rfl
  |some m=>
   dsimp only;cases s
   case nilSl=>
    dsimp only;cases dst with
    |none=>rfl
    |some d=>
     dsimp only;cases Ab rows d with
     |some _=>rfl
     |none=>
      dsimp only;cases(Nat.ble 1 ks.length&&Nat.ble 1 bytes)
      ·rfl
      ·simp only[cond_true];cases Nat.ble (m.length*bytes) 140737488355328<;>rfl
   case own id w' n=>
    dsimp only;cases Ab rows id with
    |none=>rfl
    |some r=>
     dsimp only;cases(CR ks r.ks&&Nat.beq r.ty e&&Nat.ble 1 bytes)
     ·rfl
     ·simp only[cond_true];cases Nat.ble ((r.l++m).length*bytes) 140737488355328<;>rfl
   all_goals rfl
 case call f args=>
  cases hg:C.spec f with
  |none=>rfl
  |some g=>
   dsimp only;cases GQ rows args with
   |none=>rfl
   |some l=>
    dsimp only;have hsp:=hspec.1 f g hg;rw[hsp.nat,hsp.nat (TV×St)];cases g (TV×Mem) l ⟨[],[]⟩ (fun v m=>some (v,m))with
    |none=>rfl
    |some q=>
     obtain⟨v,⟨mb,mr⟩⟩:=q;simp only[Option.bind_some];cases mb with
     |cons _ _=>rfl
     |nil=>
      cases mr with
      |cons _ _=>rfl
      |nil=>
       dsimp only;cases((!(args.any TV.hasOwn)||v.flat)&&v.plainB)<;>rfl
 case callM f args=>
  cases hg:C.spec f with
  |none=>rfl
  |some g=>
   dsimp only;have hsp:=hspec.1 f g hg;generalize LO boxes 4 (AU (cat AC.keys (cat TV.cellsOf args)) [])=keys;generalize Oc boxes (cat TV.cellsOf args) keys=ids;cases(Aj (TV.inK keys ids) args&&Aj (fun k=>Aj (AC.inK keys ids) (Es boxes k)) keys&&BF keys&&BF ids)
   ·rfl
   ·simp only[cond_true];cases Dr boxes (fun k=>base+pos keys k) (fun i=>base+pos ids i) base keys with
    |none=>cases FV rows base ids<;>rfl
    |some mb=>
     cases FV rows base ids with
     |none=>rfl
     |some mr=>
      dsimp only;rw[hsp.nat,hsp.nat (TV×St)];cases g (TV×Mem) (args.map (TV.ren (fun k=>base+pos keys k) (fun i=>base+pos ids i))) ⟨mb,mr⟩ (fun v m=>some (v,m))with
      |none=>rfl
      |some q=>
       obtain⟨v,⟨mb',mr'⟩⟩:=q;simp only[Option.bind_some];cases(Aj (fun p:Nat×Box=>DX mb' p.1) mb&&BF (mb'.map (·.1))&&BF (mr'.map (·.1))&&Aj (fun k=>Hs boxes (BC keys (A_ keys mb') (dst.getD 0) k)) (A_ keys mb')&&Aj (fun k=>Hs rows (BC ids (A_ ids mr') (dst.getD 0) k)) (A_ ids mr')&&Nat.ble (A_ keys mb').length 100&&Nat.ble (A_ ids mr').length 100)<;>rfl
 case callF f args=>
  cases hg:C.spec f with
  |none=>rfl
  |some g=>
   dsimp only;have hsp:=hspec.1 f g hg;cases Aj TV.plainB args
   ·rfl
   ·simp only[cond_true];rw[hsp.nat,hsp.nat (TV×St)];cases g (TV×Mem) args ⟨[],[]⟩ (fun v m=>some (v,m))with
    |none=>rfl
    |some q=>
     obtain⟨v,⟨mb,mr⟩⟩:=q;simp only[Option.bind_some];cases mb with
     |cons _ _=>rfl
     |nil=>
      cases mr with
      |nil=>dsimp only;cases v.plainB<;>rfl
      |cons p l=>
       obtain⟨k,r⟩:=p;cases l with
       |cons _ _=>rfl
       |nil=>
        dsimp only;split
        ·rename_i j w0 n0;cases Nat.beq j k
         ·rfl
         ·simp only[cond_true];cases Ab rows (Ho (dst.getD 0))<;>rfl
        ·rfl
 case callD f args=>
  cases hg:C.spec f with
  |none=>rfl
  |some g=>
   dsimp only;have hsp:=hspec.1 f g hg;generalize AU (cat AC.keys (cat TV.cellsOf args)) []=keys;cases(Aj (TV.inK keys []) args&&Aj (fun k=>Aj AC.calm (Es boxes k)) keys&&BF keys)
   ·rfl
   ·simp only[cond_true];cases Dr boxes (fun k=>base+pos keys k) (fun i=>base+pos [] i) base keys with
    |none=>rfl
    |some mb=>
     dsimp only;rw[hsp.nat,hsp.nat (TV×St)];cases g (TV×Mem) (args.map (TV.ren (fun k=>base+pos keys k) (fun i=>base+pos [] i))) ⟨mb,[]⟩ (fun v m=>some (v,m))with
     |none=>rfl
     |some q=>
      obtain⟨v,⟨mb',mr'⟩⟩:=q;simp only[Option.bind_some];cases mr' with
      |cons _ _=>rfl
      |nil=>
       dsimp only;cases(Aj (fun p:Nat×Box=>DX mb' p.1) mb&&Aj (fun p:Nat×Box=>DX mb p.1) mb'&&BF (mb'.map (·.1))&&Aj (fun p:Nat×Box=>Aj AC.calm p.2.cells) mb'&&v.plainB)<;>rfl
theorem SY:∀(l:List Nat) (s:St) (K:St->Option R),HT l s K=(HT l s some).bind K
 |[],s,K=>rfl
 |id::l,⟨tm,boxes,rows⟩,K=>by
  simp only[HT,A0];cases Ab rows id with
  |none=>exact SY l _ K
  |some r=>exact SY l _ K
theorem Qy2 (k o:Nat) (e:TypeId) (s:St) (K:St->Option R):KU P k o e s K=(KU P k o e s some).bind K:=by
 obtain⟨tm,boxes,rows⟩:=s;simp only[KU,A0];cases Ab boxes k with
 |none=>rfl
 |some b=>
  dsimp only;cases nth .dead b.cells o<;>try rfl
  dsimp only;cases F5 P 8 e with
  |none=>rfl
  |some ks=>
   dsimp only;cases(Nat.ble 1 ks.length&&Hs rows (1000000+1000*k+o))<;>rfl
theorem UB:∀(l:List (Nat×Nat×TypeId)) (s:St) (K:St->Option R),IN P l s K=(IN P l s some).bind K
 |[],s,K=>rfl
 |(k,o,e)::l,s,K=>by
  simp only[IN];rw[Qy2,Qy2 (K:=fun s'=>IN P l s' some)];cases KU P k o e s some with
  |none=>rfl
  |some s'=>exact UB l s' K
theorem Qdk:∀(l:List (Nat×TypeId)) (s:St) (K:St->Option R),Iw P l s K=(Iw P l s some).bind K
 |[],s,K=>rfl
 |(t,e)::l,⟨tmps,boxes,rows⟩,K=>by
  simp only[Iw];split
  ·split
   ·rename_i ks _ _;cases Nat.ble 1 ks.length
    ·rfl
    ·simp only[cond_true,A0];exact Qdk l _ K
   ·rfl
  ·exact Qdk l _ K
theorem Zr3 (s:St) (K:St->Option R):Ha P C s K=(Ha P C s some).bind K:=by
 simp only[Ha,A0];rw[UB]
 conv=>rhs;rw[UB]
 cases IN P (cat (fun p:Nat×Box=>bif AK C.ownBut p.1 then []else(C.ownOff p.2.ty).map fun q=>(p.1,q.1,q.2)) s.boxes) s some with
 |none=>rfl
 |some s'=>exact Qdk _ _ K
theorem Q1u (o:Op) (s:St) (K:St->Option R):HP P C o s K=(HP P C o s some).bind K:=by
 unfold HP;rw[SY]
 conv=>rhs;rw[SY]
 cases HT (Q4a C (AS s.tmps) o) s some with
 |none=>rfl
 |some s'=>
  simp only[Option.bind_some];cases Qmm C o
  ·rfl
  ·exact Zr3 s' K
theorem Z35 (hspec:Ai P C) (pre:Bool) (ops:List Oper) (o:Oper) (s:St) (K:Option Prim->St->Option R):FC P C pre ops o s K=(FC P C pre ops o s fun p s'=>some (p,s')).bind fun q=>K q.1 q.2:=by
 have hrun:∀s:St,((bif pre then HP P C o.op s else fun K=>K s) fun s=>opK P C (AS s.tmps) o.dst o.op fun p=>AY C o.dst (p.dr pre) s fun v s'=>put s' o.dst v (K (some (p.dr pre))))=
   ((bif pre then HP P C o.op s else fun K=>K s) fun s=>opK P C (AS s.tmps) o.dst o.op fun p=>AY C o.dst (p.dr pre) s fun v s'=>put s' o.dst v ((fun p s'=>some (p,s')) (some (p.dr pre)))).bind fun q=>K q.1 q.2:=by
  have h1:∀s:St,(opK P C (AS s.tmps) o.dst o.op fun p=>AY C o.dst (p.dr pre) s fun v s'=>put s' o.dst v (K (some (p.dr pre))))=(opK P C (AS s.tmps) o.dst o.op fun p=>AY C o.dst (p.dr pre) s fun v s'=>put s' o.dst v ((fun p s'=>some (p,s')) (some (p.dr pre)))).bind fun q=>K q.1 q.2:=by
   intro s;rw[Pz]
   conv=>rhs;rw[Pz]
   cases opK P C (AS s.tmps) o.dst o.op some with
   |none=>rfl
   |some p=>
    simp only[Option.bind_some];rw[Qso hspec]
    conv=>rhs;rw[Qso hspec]
    cases AY C o.dst (p.dr pre) s fun v s'=>some (v,s')with
    |none=>rfl
    |some q=>simp only[Option.bind_some,KT]
  intro s;cases pre
  ·exact h1 s
  ·simp only[cond_true];rw[Q1u]
   conv=>rhs;rw[Q1u]
   cases HP P C o.op s some with
   |none=>rfl
   |some s'=>exact h1 s'
 have hskip:∀s:St,put s o.dst (.tup []) (K none)=(put s o.dst (.tup []) ((fun p s'=>some (p,s')) none)).bind fun q=>K q.1 q.2:=by
  intro s;simp only[KT,Option.bind_some]
 unfold FC Pe;cases o.guard with
 |none=>exact hrun s
 |some jw=>
  obtain⟨j,want⟩:=jw;dsimp only;cases ops[j]? with
  |none=>rfl
  |some oj=>
   dsimp only;cases oj.dst with
   |none=>rfl
   |some t=>
    dsimp only;split
    ·rename_i g _;cases g
     ·simp only[cond_false];rw[Fi]
      conv=>rhs;rw[Fi]
      cases want
      ·exact hrun _
      ·exact hskip _
     ·simp only[cond_true];rw[Fi]
      conv=>rhs;rw[Fi]
      cases want
      ·exact hskip _
      ·exact hrun _
    ·exact hskip _
    ·rfl
def BR (ops:List Oper) (o:Oper) (tm:List TV):Option Bool:=
 match o.guard with
 |none=>some true
 |some (j,want)=>match ops[j]? with
  |some oj=>match oj.dst with
   |some t=>match nth .dead tm t with
    | .c (.bool g)=>some (g==want)
    | .tup []=>some false
    |_=>none
   |none=>none
  |none=>none
def B6 (ops:List Oper) (o:Oper) (s:St):Option (Option Prim×St):=
 match BR ops o s.tmps with
 |some true=>(opK P C (AS s.tmps) o.dst o.op some).bind fun p=>(EX (C:=C) o.dst (p.dr false) s).bind fun q=>some (some (p.dr false),R6 q.2 o.dst q.1)
 |some false=>some (none,R6 s o.dst (.tup []))
 |none=>none
theorem Q7b {tm:List TV} {t:Nat} {v:TV} (h:nth .dead tm t=v) (hv:v≠ .dead):setL tm t v=tm:=by
 rw[BK,List.getD]at h;rw[H9];cases ht:tm[t]? with
 |none=>rw[ht]at h;simp at h;exact absurd h.symm hv
 |some u=>
  rw[ht]at h;simp at h;subst h;apply List.ext_getElem?;intro i;rw[List.getElem?_set];split
  ·rename_i e;subst e;split
   ·exact ht.symm
   ·rename_i hlt;rw[List.getElem?_eq_none (by omega)]
  ·rfl
theorem Q85 (hspec:Ai P C) {ops:List Oper} {o:Oper} {s:St} {K:Option Prim->St->Option R} {r:R} (h:FC P C false ops o s K=some r):
  (∃p s',B6 (P:=P) (C:=C) ops o s=some (p,s')/\K p s'=some r)\/(∃p s',K (some p) s'=some r/\Prim.simple (some p)=false):=by
 have hrun:∀s1:St,BR ops o s.tmps=some true->s1=s->(opK P C (AS s1.tmps) o.dst o.op fun p=>AY C o.dst (p.dr false) s1 fun v s'=>put s' o.dst v (K (some (p.dr false))))=some r->
   (∃p s',B6 (P:=P) (C:=C) ops o s=some (p,s')/\K p s'=some r)\/(∃p s',K (some p) s'=some r/\Prim.simple (some p)=false):=by
  rintro s1 hw rfl h;rw[Pz]at h;cases hp:opK P C (AS s1.tmps) o.dst o.op some with
  |none=>rw[hp]at h;simp at h
  |some p=>
   rw[hp]at h;simp only[Option.bind_some]at h;cases hs:Prim.simple (some (p.dr false))
   ·right;obtain⟨v,s',hk⟩:=Zwy hspec h;rw[KT]at hk;exact⟨p.dr false,_,hk,hs⟩
   ·left;rw[Qwf hspec hs]at h;cases hm:EX (C:=C) o.dst (p.dr false) s1 with
    |none=>rw[hm]at h;simp at h
    |some q=>
     rw[hm]at h;simp only[Option.bind_some,KT]at h;refine⟨some (p.dr false),_,?_,h⟩;simp only[B6,hw,hp,Option.bind_some,hm]
 have hskip:∀s1:St,BR ops o s.tmps=some false->s1=s->put s1 o.dst (.tup []) (K none)=some r->
   (∃p s',B6 (P:=P) (C:=C) ops o s=some (p,s')/\K p s'=some r)\/(∃p s',K (some p) s'=some r/\Prim.simple (some p)=false):=by
  rintro s1 hw rfl h;rw[KT]at h;exact .inl ⟨none,_,by simp only[B6,hw],h⟩
 unfold FC Pe at h;cases hg:o.guard with
 |none=>
  rw[hg]at h;exact hrun s (by simp[BR,hg]) rfl h
 |some jw=>
  obtain⟨j,want⟩:=jw;rw[hg]at h;simp only at h;split at h
  ·rename_i oj hj;split at h
   ·rename_i t ht;split at h
    ·rename_i g hgv;have hw:BR ops o s.tmps=some (g==want):=by simp only[BR,hg,hj,ht,hgv]
     have hself:∀b,g=b->(⟨setL s.tmps t (.c (.bool b)),s.boxes,s.rows⟩:St)=s:=by
      rintro b rfl;rw[Q7b hgv (by simp)]
     cases g
     ·simp only[cond_false]at h;rw[Fi]at h;dsimp only at h;cases want
      ·exact hrun _ (by rw[hw];rfl) (hself false rfl) h
      ·exact hskip _ (by rw[hw];rfl) (hself false rfl) h
     ·simp only[cond_true]at h;rw[Fi]at h;dsimp only at h;cases want
      ·exact hskip _ (by rw[hw];rfl) (hself true rfl) h
      ·exact hrun _ (by rw[hw];rfl) (hself true rfl) h
    ·rename_i hgv;exact hskip _ (by simp only[BR,hg,hj,ht,hgv]) rfl h
    ·simp at h
   ·simp at h
  ·simp at h
def H5 (P:Program) (C:Cfg) (ops:List Oper) (m:List Nat) (i:Nat) (o:Oper) (s:St):Option (Option Prim×St):=
 if C7 ops m i=true then FC P C true ops o s fun p s'=>some (p,s')else B6 (P:=P) (C:=C) ops o s
def P5 (P:Program) (C:Cfg) (ops:List Oper) (m:List Nat):List (Nat×Oper×Option Prim)->St->St->Prop
 |[],s,s'=>s=s'
 |(i,o,p)::l,s,s'=>∃s1,H5 P C ops m i o s=some (p,s1)/\P5 P C ops m l s1 s'
theorem Qnc (hspec:Ai P C) {ops:List Oper} {m:List Nat}:∀(l:List Oper) (i:Nat) (s:St) (K:List (Oper×Option Prim)->St->Option R) (r:R),NY P C ops m l i s K=some r->
  (∃(ps:List (Nat×Oper×Option Prim)) (sf:St),ps.map (·.2.1)=l/\ps.map (·.1)=List.range' i l.length/\P5 P C ops m ps s sf/\K (ps.map (·.2)) sf=some r)\/
  (∃(acc:List (Oper×Option Prim)) (sf:St),K acc sf=some r/\∃(j:Nat) (q:Oper×Option Prim),acc[j]? =some q/\(C7 ops m (i+j)||Prim.simple q.2)=false)
 |[],i,s,K,r,h=> .inl ⟨[],s,rfl,rfl,rfl,h⟩
 |o::l,i,s,K,r,h=>by
  simp only[NY]at h;have hstep:(∃p s1,H5 P C ops m i o s=some (p,s1)/\NY P C ops m l (i+1) s1 (fun rest sf=>K ((o,p)::rest) sf)=some r)\/
    (∃p s1,NY P C ops m l (i+1) s1 (fun rest sf=>K ((o,some p)::rest) sf)=some r/\(C7 ops m i||Prim.simple (some p))=false):=by
   cases hw:C7 ops m i
   ·rw[hw]at h;rcases Q85 hspec h with⟨p,s1,h1,h2⟩|⟨p,s1,h1,h2⟩
    ·exact .inl ⟨p,s1,by unfold H5;rw[if_neg (by rw[hw];simp)];exact h1,h2⟩
    ·exact .inr ⟨p,s1,h1,by simpa using h2⟩
   ·rw[hw,Z35 hspec]at h;cases hk:FC P C true ops o s fun p s'=>some (p,s')with
    |none=>rw[hk]at h;simp at h
    |some q=>
     rw[hk]at h;exact .inl ⟨q.1,q.2,by unfold H5;rw[if_pos hw];exact hk,h⟩
  rcases hstep with⟨p,s1,h1,h2⟩|⟨p,s1,h1,h2⟩
  ·rcases Qnc hspec l (i+1) s1 _ r h2 with⟨ps,sf,q1,q2,q3,q4⟩|⟨acc,sf,q1,j,q,q2,q3⟩
   ·exact .inl ⟨(i,o,p)::ps,sf,by simp[q1],by simp[q2,List.range'_succ],⟨s1,h1,q3⟩,q4⟩
   ·exact .inr ⟨_,sf,q1,j+1,q,by simp[q2],by rw[show i+(j+1)=i+1+j from by omega];exact q3⟩
  ·rcases Qnc hspec l (i+1) s1 _ r h1 with⟨ps,sf,q1,q2,q3,q4⟩|⟨acc,sf,q1,j,q,q2,q3⟩
   ·exact .inr ⟨_,sf,q4,0,(o,some p),by simp,h2⟩
   ·exact .inr ⟨_,sf,q1,j+1,q,by simp[q2],by rw[show i+(j+1)=i+1+j from by omega];exact q3⟩
end
end Go.Bm
